/- hold.own: the contract. -/
import Derived.Test.YtccobobnmpafbaaGreatDoorK05
import Derived.Laws.MakeOwn
import Derived.Laws.OwnMore
import Derived.Test.YtccobobnmpafbaaGreatDoorK01
import Derived.Deep.QuietTactic
import Derived.BigQuiet
set_option maxRecDepth 100000
set_option maxHeartbeats 100000000
namespace Go.Proofs.YtccobobnmpafbaaGreatDoor
open Go Go.RowKit
def RefL.gp(r:RefL):Nat->PN
 | 0=>r.path
 | 1=>r.pt.p
 | 2=>r.a.p
 | _=>r.f.p
def RefL.sp(r:RefL)(q:PN):Nat->RefL
 | 0=>{ r with path:=q }
 | 1=>{ r with pt:=⟨q,r.pt.o⟩ }
 | 2=>{ r with a:=⟨q,r.a.o⟩ }
 | _=>{ r with f:=⟨q,r.f.o⟩ }
def RetRef(r:RefE)(w:World)(e:Ending)(w':World):Prop:=∃ x:RefL,e=.returned x.val/\Grew w w'/\x.In w' w.heap.size w'.heap.size/\Hid (x.er=r)
def OwnAt(r0:RefL)(w:World)(i:Value)(wr:World):Prop:=∃(k:Nat) (r:RefL),k<=4/\i=.int .i64 k/\wr.rangeAt w.heap.size 0 r.cells/\(∀ j,wr.frozen? ⟨w.heap.size,j,none⟩=false)/\wr.there (w.heap.size+1) 0 11 /\
 (wr.cell? ⟨w.heap.size+2,0,none⟩=some (.pointer (some ⟨w.heap.size,4,none⟩))/\wr.cell? ⟨w.heap.size+2,1,none⟩=some (.pointer (some ⟨w.heap.size,5,none⟩))/\wr.cell? ⟨w.heap.size+2,2,none⟩=some (.pointer (some ⟨w.heap.size,7,none⟩))/\wr.cell? ⟨w.heap.size+2,3,none⟩=some (.pointer (some ⟨w.heap.size,9,none⟩))) /\
 Grew w wr/\w.heap.size+3<=wr.heap.size/\(∀ j,j < k->IntsIn wr (w.heap.size+3) wr.heap.size (r.gp j).a (r.gp j).c (r.gp j).l)/\(∀ j,k<=j->j < 4->r.gp j=r0.gp j)/\Hid (r.er=r0.er)
def offP:Nat->Nat
 | 0=>4
 | 1=>5
 | 2=>7
 | _=>9
theorem sp_cells(x:RefL)(q:PN)(j:Nat):(x.sp q j).cells=x.cells.set (offP j) (.slice q.a q.l.length q.c):=by
 match j with
 | 0=>rfl
 | 1=>rfl
 | 2=>rfl
 | _+3=>rfl
theorem sp_er(x:RefL)(q:PN)(j:Nat)(h:q.l=(x.gp j).l):(x.sp q j).er=x.er:=by
 match j,h with
 | 0,h=>simp only[RefL.sp,RefL.er,RefL.gp] at h ⊢;rw[h]
 | 1,h=>simp only[RefL.sp,RefL.er,RefL.gp,PtL.er] at h ⊢;rw[h]
 | 2,h=>simp only[RefL.sp,RefL.er,RefL.gp,PtL.er] at h ⊢;rw[h]
 | _+3,h=>simp only[RefL.sp,RefL.er,RefL.gp,PtL.er] at h ⊢;rw[h]
theorem sp_gp(x:RefL)(q:PN)(j i:Nat)(hj:j < 4)(hi:i < 4):(x.sp q j).gp i=if i=j then q else x.gp i:=by
 have hj':j=0\/j=1\/j=2\/j=3:=by omega
 have hi':i=0\/i=1\/i=2\/i=3:=by omega
 rcases hj' with rfl | rfl | rfl | rfl <;> rcases hi' with rfl | rfl | rfl | rfl <;> rfl
theorem own_step{r0 x:RefL}{w wr w2:World}{k:Nat}{q:PN}(hk:k < 4)(hx:wr.rangeAt w.heap.size 0 x.cells)(hf:∀ j,wr.frozen? ⟨w.heap.size,j,none⟩=false)(ht:wr.there (w.heap.size+1) 0 11)(hp:wr.cell? ⟨w.heap.size+2,0,none⟩=some (.pointer (some ⟨w.heap.size,4,none⟩))/\wr.cell? ⟨w.heap.size+2,1,none⟩=some (.pointer (some ⟨w.heap.size,5,none⟩))/\wr.cell? ⟨w.heap.size+2,2,none⟩=some (.pointer (some ⟨w.heap.size,7,none⟩))/\wr.cell? ⟨w.heap.size+2,3,none⟩=some (.pointer (some ⟨w.heap.size,9,none⟩)))(hg:Grew w wr)(hz:w.heap.size+3<=wr.heap.size)(hnew:∀ j,j < k->IntsIn wr (w.heap.size+3) wr.heap.size (x.gp j).a (x.gp j).c (x.gp j).l)(hold:∀ j,k<=j->j < 4->x.gp j=r0.gp j)(he:Hid (x.er=r0.er))(g2:Grew wr w2)(hq:IntsIn w2 wr.heap.size w2.heap.size q.a q.c q.l)(hqe:Hid (q.l=(r0.gp k).l)):OwnAt r0 w (.int .i64 ((k+1:Nat):Int)) (w2.setCell ⟨w.heap.size,offP k,none⟩ (.slice q.a q.l.length q.c)):=by
 have z2:=g2.size;have kS:Keeps (·=w.heap.size) w2 (w2.setCell ⟨w.heap.size,offP k,none⟩ (.slice q.a q.l.length q.c)):=(Keeps.refl _ _).own _ _;have hag:∀ hi,hi<=w2.heap.size->Agree (w.heap.size+1) hi w2 (w2.setCell ⟨w.heap.size,offP k,none⟩ (.slice q.a q.l.length q.c)):=fun hi h=>kS.agree h (fun j h1 h2=>by show ¬ j=_;omega);have hc:∀ b j,w.heap.size < b->b < wr.heap.size->(w2.setCell ⟨w.heap.size,offP k,none⟩ (.slice q.a q.l.length q.c)).cell? ⟨b,j,none⟩=wr.cell? ⟨b,j,none⟩:=fun b j h1 h2=>(kS.cell (p:=⟨b,j,none⟩) (by show b < _;omega) (by show ¬ b=_;omega)).trans (g2.cell (p:=⟨b,j,none⟩) h2);have hfz:∀ b j,b < wr.heap.size->(w2.setCell ⟨w.heap.size,offP k,none⟩ (.slice q.a q.l.length q.c)).frozen? ⟨b,j,none⟩=wr.frozen? ⟨b,j,none⟩:=fun b j h2=>by rw[World.frozen?_setCell];exact g2.frozen (p:=⟨b,j,none⟩) h2
 refine⟨k+1,x.sp q k,by omega,rfl,?_,fun j=>(hfz _ _ (by omega)).trans (hf j),fun j hj=>?_,⟨(hc _ _ (by omega) (by omega)).trans hp.1,(hc _ _ (by omega) (by omega)).trans hp.2.1,(hc _ _ (by omega) (by omega)).trans hp.2.2.1,(hc _ _ (by omega) (by omega)).trans hp.2.2.2⟩,(hg.trans g2).setCell zQ1 _,by rw[World.size_setCell];omega,fun j hj=>?_,fun j h1 h2=>?_,?_⟩
 ·rw[sp_cells]
  refine zcn (zcj hx g2 (by omega)) (by
   rw[RefL.cells_len]
   unfold offP;split <;> omega) _
 ·rw[hc _ _ (by omega) (by omega),hfz _ _ (by omega)];exact ht j hj
 ·rw[sp_gp x q k j hk (by omega)]
  split
  ·exact (hq.agree ((hag _ zQ1).mono (by omega) zQ1)).mono (by omega) (by rw[World.size_setCell];omega)
  ·exact (((hnew j (by omega)).grew g2 zQ1).agree ((hag _ z2).mono (by omega) zQ1)).mono zQ1 (by rw[World.size_setCell];omega)
 ·rw[sp_gp x q k j hk h2,if_neg (by omega)];exact hold j (by omega) h2
 ·show _=_
  rw[sp_er x q k (by rw[hqe.out,hold k zQ1 hk])];exact he.out
theorem holdOwn_any(r:RefL)(w:World)(hr:r.In w 0 w.heap.size)(hs:r.er.Small):Calls Tryz.prog 102 #[r.val] w (RetRef r.er w):=by
 have CP:=zQ0 (fun(j:Nat) (hj:j < 4) w1 (hg:Grew w w1)=>zaU (r.gp j).a (r.gp j).c (r.gp j).l w1 (by
  have h:IntsIn w 0 w.heap.size (r.gp j).a (r.gp j).c (r.gp j).l:=by
   have hj':j=0\/j=1\/j=2\/j=3:=by omega
   rcases hj' with rfl | rfl | rfl | rfl
   ·exact hr.1
   ·exact hr.2.1
   ·exact hr.2.2.1
   ·exact hr.2.2.2
  exact (h.grew hg zQ1).mono zQ1 hg.size) (by
   have hj':j=0\/j=1\/j=2\/j=3:=by omega
   rcases hj' with rfl | rfl | rfl | rfl
   ·exact hs.1
   ·exact hs.2.1
   ·exact hs.2.2.1
   ·exact hs.2.2.2))
 unfold RefL.val;clear hr hs
 have hst:OwnAt r w (.int .i64 (0:Nat)) (((w.alloc (.cells #[.int .i64 r.id,.int .i64 r.kind,.int .i64 r.aff,.bool r.live,.slice r.path.a r.path.l.length r.path.c,.slice r.pt.p.a r.pt.p.l.length r.pt.p.c,.int .i64 r.pt.o,.slice r.a.p.a r.a.p.l.length r.a.p.c,.int .i64 r.a.o,.slice r.f.p.a r.f.p.l.length r.f.p.c,.int .i64 r.f.o] 46)).alloc (.cells #[.int .i64 0,.int .i64 0,.int .i64 0,.bool false,.slice none 0 0,.slice none 0 0,.int .i64 0,.slice none 0 0,.int .i64 0,.slice none 0 0,.int .i64 0] 46)).alloc (.cells #[.pointer (some ⟨w.heap.size,4,none⟩),.pointer (some ⟨w.heap.size,5,none⟩),.pointer (some ⟨w.heap.size,7,none⟩),.pointer (some ⟨w.heap.size,9,none⟩)] 158)):=by
  have g1:=Grew.alloc1 (w.alloc (.cells #[.int .i64 r.id,.int .i64 r.kind,.int .i64 r.aff,.bool r.live,.slice r.path.a r.path.l.length r.path.c,.slice r.pt.p.a r.pt.p.l.length r.pt.p.c,.int .i64 r.pt.o,.slice r.a.p.a r.a.p.l.length r.a.p.c,.int .i64 r.a.o,.slice r.f.p.a r.f.p.l.length r.f.p.c,.int .i64 r.f.o] 46)) (.cells #[.int .i64 0,.int .i64 0,.int .i64 0,.bool false,.slice none 0 0,.slice none 0 0,.int .i64 0,.slice none 0 0,.int .i64 0,.slice none 0 0,.int .i64 0] 46);have g2:=Grew.alloc1 ((w.alloc (.cells #[.int .i64 r.id,.int .i64 r.kind,.int .i64 r.aff,.bool r.live,.slice r.path.a r.path.l.length r.path.c,.slice r.pt.p.a r.pt.p.l.length r.pt.p.c,.int .i64 r.pt.o,.slice r.a.p.a r.a.p.l.length r.a.p.c,.int .i64 r.a.o,.slice r.f.p.a r.f.p.l.length r.f.p.c,.int .i64 r.f.o] 46)).alloc (.cells #[.int .i64 0,.int .i64 0,.int .i64 0,.bool false,.slice none 0 0,.slice none 0 0,.int .i64 0,.slice none 0 0,.int .i64 0,.slice none 0 0,.int .i64 0] 46)) (.cells #[.pointer (some ⟨w.heap.size,4,none⟩),.pointer (some ⟨w.heap.size,5,none⟩),.pointer (some ⟨w.heap.size,7,none⟩),.pointer (some ⟨w.heap.size,9,none⟩)] 158);have g:=g1.trans g2;refine⟨0,r,by omega,rfl,fun j v hj=>?_,fun j=>?_,fun j hj=>?_,?_,((Grew.alloc1 _ _).alloc _).alloc _,by simp,fun j hj=>by omega,fun j _ _=>rfl,rfl⟩
  ·rw[Nat.zero_add];exact zap g (by simpa [RefL.cells] using hj)
  ·rw[g.frozen (by simp),World.frozen?_alloc_at _ _ _ _ rfl]
  ·rw[Nat.zero_add];have e:(w.alloc (.cells #[.int .i64 r.id,.int .i64 r.kind,.int .i64 r.aff,.bool r.live,.slice r.path.a r.path.l.length r.path.c,.slice r.pt.p.a r.pt.p.l.length r.pt.p.c,.int .i64 r.pt.o,.slice r.a.p.a r.a.p.l.length r.a.p.c,.int .i64 r.a.o,.slice r.f.p.a r.f.p.l.length r.f.p.c,.int .i64 r.f.o] 46)).heap.size=w.heap.size+1:=by simp
   refine⟨?_,?_⟩
   ·have hb:=fun(v:Value) (h:(#[.int .i64 0,.int .i64 0,.int .i64 0,.bool false,.slice none 0 0,.slice none 0 0,.int .i64 0,.slice none 0 0,.int .i64 0,.slice none 0 0,.int .i64 0]:Array Value)[j]? = some v)=>zap g2 (j:=j) (v:=v) h;rw[e] at hb;obtain⟨v,hv⟩:∃ v,(#[.int .i64 0,.int .i64 0,.int .i64 0,.bool false,.slice none 0 0,.slice none 0 0,.int .i64 0,.slice none 0 0,.int .i64 0,.slice none 0 0,.int .i64 0]:Array Value)[j]? = some v:=⟨_,Array.getElem?_eq_getElem (by simpa using hj)⟩
    rw[hb v hv];rfl
   ·rw[g2.frozen (by simp),World.frozen?_alloc_at _ _ _ _ (by simp)]
  ·have e:((w.alloc (.cells #[.int .i64 r.id,.int .i64 r.kind,.int .i64 r.aff,.bool r.live,.slice r.path.a r.path.l.length r.path.c,.slice r.pt.p.a r.pt.p.l.length r.pt.p.c,.int .i64 r.pt.o,.slice r.a.p.a r.a.p.l.length r.a.p.c,.int .i64 r.a.o,.slice r.f.p.a r.f.p.l.length r.f.p.c,.int .i64 r.f.o] 46)).alloc (.cells #[.int .i64 0,.int .i64 0,.int .i64 0,.bool false,.slice none 0 0,.slice none 0 0,.int .i64 0,.slice none 0 0,.int .i64 0,.slice none 0 0,.int .i64 0] 46)).heap.size=w.heap.size+2:=by simp
   have b0:=zap (Grew.refl (((w.alloc (.cells #[.int .i64 r.id,.int .i64 r.kind,.int .i64 r.aff,.bool r.live,.slice r.path.a r.path.l.length r.path.c,.slice r.pt.p.a r.pt.p.l.length r.pt.p.c,.int .i64 r.pt.o,.slice r.a.p.a r.a.p.l.length r.a.p.c,.int .i64 r.a.o,.slice r.f.p.a r.f.p.l.length r.f.p.c,.int .i64 r.f.o] 46)).alloc (.cells #[.int .i64 0,.int .i64 0,.int .i64 0,.bool false,.slice none 0 0,.slice none 0 0,.int .i64 0,.slice none 0 0,.int .i64 0,.slice none 0 0,.int .i64 0] 46)).alloc (.cells #[.pointer (some ⟨w.heap.size,4,none⟩),.pointer (some ⟨w.heap.size,5,none⟩),.pointer (some ⟨w.heap.size,7,none⟩),.pointer (some ⟨w.heap.size,9,none⟩)] 158))) (j:=0) (v:=.pointer (some ⟨w.heap.size,4,none⟩)) rfl;have b1:=zap (Grew.refl (((w.alloc (.cells #[.int .i64 r.id,.int .i64 r.kind,.int .i64 r.aff,.bool r.live,.slice r.path.a r.path.l.length r.path.c,.slice r.pt.p.a r.pt.p.l.length r.pt.p.c,.int .i64 r.pt.o,.slice r.a.p.a r.a.p.l.length r.a.p.c,.int .i64 r.a.o,.slice r.f.p.a r.f.p.l.length r.f.p.c,.int .i64 r.f.o] 46)).alloc (.cells #[.int .i64 0,.int .i64 0,.int .i64 0,.bool false,.slice none 0 0,.slice none 0 0,.int .i64 0,.slice none 0 0,.int .i64 0,.slice none 0 0,.int .i64 0] 46)).alloc (.cells #[.pointer (some ⟨w.heap.size,4,none⟩),.pointer (some ⟨w.heap.size,5,none⟩),.pointer (some ⟨w.heap.size,7,none⟩),.pointer (some ⟨w.heap.size,9,none⟩)] 158))) (j:=1) (v:=.pointer (some ⟨w.heap.size,5,none⟩)) rfl;have b2:=zap (Grew.refl (((w.alloc (.cells #[.int .i64 r.id,.int .i64 r.kind,.int .i64 r.aff,.bool r.live,.slice r.path.a r.path.l.length r.path.c,.slice r.pt.p.a r.pt.p.l.length r.pt.p.c,.int .i64 r.pt.o,.slice r.a.p.a r.a.p.l.length r.a.p.c,.int .i64 r.a.o,.slice r.f.p.a r.f.p.l.length r.f.p.c,.int .i64 r.f.o] 46)).alloc (.cells #[.int .i64 0,.int .i64 0,.int .i64 0,.bool false,.slice none 0 0,.slice none 0 0,.int .i64 0,.slice none 0 0,.int .i64 0,.slice none 0 0,.int .i64 0] 46)).alloc (.cells #[.pointer (some ⟨w.heap.size,4,none⟩),.pointer (some ⟨w.heap.size,5,none⟩),.pointer (some ⟨w.heap.size,7,none⟩),.pointer (some ⟨w.heap.size,9,none⟩)] 158))) (j:=2) (v:=.pointer (some ⟨w.heap.size,7,none⟩)) rfl;have b3:=zap (Grew.refl (((w.alloc (.cells #[.int .i64 r.id,.int .i64 r.kind,.int .i64 r.aff,.bool r.live,.slice r.path.a r.path.l.length r.path.c,.slice r.pt.p.a r.pt.p.l.length r.pt.p.c,.int .i64 r.pt.o,.slice r.a.p.a r.a.p.l.length r.a.p.c,.int .i64 r.a.o,.slice r.f.p.a r.f.p.l.length r.f.p.c,.int .i64 r.f.o] 46)).alloc (.cells #[.int .i64 0,.int .i64 0,.int .i64 0,.bool false,.slice none 0 0,.slice none 0 0,.int .i64 0,.slice none 0 0,.int .i64 0,.slice none 0 0,.int .i64 0] 46)).alloc (.cells #[.pointer (some ⟨w.heap.size,4,none⟩),.pointer (some ⟨w.heap.size,5,none⟩),.pointer (some ⟨w.heap.size,7,none⟩),.pointer (some ⟨w.heap.size,9,none⟩)] 158))) (j:=3) (v:=.pointer (some ⟨w.heap.size,9,none⟩)) rfl;rw[e] at b0 b1 b2 b3;exact⟨b0,b1,b2,b3⟩
 go_enter Tryz.func102,Tryz.ntmps102
 go_wp2_with fail
 generalize ((w.alloc (.cells #[.int .i64 r.id,.int .i64 r.kind,.int .i64 r.aff,.bool r.live,.slice r.path.a r.path.l.length r.path.c,.slice r.pt.p.a r.pt.p.l.length r.pt.p.c,.int .i64 r.pt.o,.slice r.a.p.a r.a.p.l.length r.a.p.c,.int .i64 r.a.o,.slice r.f.p.a r.f.p.l.length r.f.p.c,.int .i64 r.f.o] 46)).alloc (.cells #[.int .i64 0,.int .i64 0,.int .i64 0,.bool false,.slice none 0 0,.slice none 0 0,.int .i64 0,.slice none 0 0,.int .i64 0,.slice none 0 0,.int .i64 0] 46)).alloc (.cells #[.pointer (some ⟨w.heap.size,4,none⟩),.pointer (some ⟨w.heap.size,5,none⟩),.pointer (some ⟨w.heap.size,7,none⟩),.pointer (some ⟨w.heap.size,9,none⟩)] 158)=w3 at *
 go_loopw [16] (fun i wr=>OwnAt r w i wr) (fun i _=>4 - (intOf i).toNat)
 case atStart=>exact hst
 case round =>
  clear hst;obtain⟨k,x,hk,rfl,hx,hf,ht,⟨p0,p1,p2,p3⟩,hg,hz,hnew,hold,he⟩:=hrel;have hk':k=0\/k=1\/k=2\/k=3\/k=4:=by omega
  rcases hk' with hk0 | hk0 | hk0 | hk0 | hk0
  ·have hk1:(k:Int) < 4:=by omega
   have hgp:x.gp 0=r.gp 0:=hold 0 (by omega) (by omega)
   have hc:wr.cell? ⟨w.heap.size,4,none⟩=some (.slice (r.gp 0).a (r.gp 0).l.length (r.gp 0).c):=by
    have:=zci hx (j:=4) (v:=.slice (x.gp 0).a (x.gp 0).l.length (x.gp 0).c) rfl;rw[<- hgp];exact this
   have hpk:wr.cell? ⟨w.heap.size+2,k,none⟩=some (.pointer (some ⟨w.heap.size,4,none⟩)):=by rw[hk0];exact p0
   have hfo:=hf 4;have HST:=zQ0 (fun(w2:World) (q:PN) (g2:Grew wr w2) (hq:IntsIn w2 wr.heap.size w2.heap.size q.a q.c q.l) (hqe:Hid (q.l=(r.gp 0).l))=>own_step (q:=q) (show k < 4 by omega) hx hf ht ⟨p0,p1,p2,p3⟩ hg hz hnew hold he g2 hq (by rw[hk0];exact hqe));have HOK:Hid (offP k=4):=by show _=_;rw[hk0];rfl
   have hzz:w.heap.size < wr.heap.size:=by omega
   have C:=zQ0 (CP.out 0 (by omega) wr hg);clear hx hf ht p0 p1 p2 p3 hnew hold he hk0 hgp;generalize r.gp 0=z at *;go_wp2_with fail
   refine C.out.mono ?_;rintro e w2 ⟨q,rfl,g2,hq,hqe⟩;have hc2:=(g2.cell (p:=⟨w.heap.size,4,none⟩) hzz).trans hc;have hf2:=(g2.frozen (p:=⟨w.heap.size,4,none⟩) hzz).trans hfo;have hN:=HST.out w2 q g2 hq hqe;rw[HOK.out] at hN;have HN:=zQ0 hN;clear hN HST C;go_wp2_with fail
   go_roundw
   case rel =>
    have:=HN.out
    simpa using this
   case measure=>simp[intOf];omega
  ·have hk1:(k:Int) < 4:=by omega
   have hgp:x.gp 1=r.gp 1:=hold 1 (by omega) (by omega)
   have hc:wr.cell? ⟨w.heap.size,5,none⟩=some (.slice (r.gp 1).a (r.gp 1).l.length (r.gp 1).c):=by
    have:=zci hx (j:=5) (v:=.slice (x.gp 1).a (x.gp 1).l.length (x.gp 1).c) rfl;rw[<- hgp];exact this
   have hpk:wr.cell? ⟨w.heap.size+2,k,none⟩=some (.pointer (some ⟨w.heap.size,5,none⟩)):=by rw[hk0];exact p1
   have hfo:=hf 5;have HST:=zQ0 (fun(w2:World) (q:PN) (g2:Grew wr w2) (hq:IntsIn w2 wr.heap.size w2.heap.size q.a q.c q.l) (hqe:Hid (q.l=(r.gp 1).l))=>own_step (q:=q) (show k < 4 by omega) hx hf ht ⟨p0,p1,p2,p3⟩ hg hz hnew hold he g2 hq (by rw[hk0];exact hqe));have HOK:Hid (offP k=5):=by show _=_;rw[hk0];rfl
   have hzz:w.heap.size < wr.heap.size:=by omega
   have C:=zQ0 (CP.out 1 (by omega) wr hg);clear hx hf ht p0 p1 p2 p3 hnew hold he hk0 hgp;generalize r.gp 1=z at *;go_wp2_with fail
   refine C.out.mono ?_;rintro e w2 ⟨q,rfl,g2,hq,hqe⟩;have hc2:=(g2.cell (p:=⟨w.heap.size,5,none⟩) hzz).trans hc;have hf2:=(g2.frozen (p:=⟨w.heap.size,5,none⟩) hzz).trans hfo;have hN:=HST.out w2 q g2 hq hqe;rw[HOK.out] at hN;have HN:=zQ0 hN;clear hN HST C;go_wp2_with fail
   go_roundw
   case rel =>
    have:=HN.out
    simpa using this
   case measure=>simp[intOf];omega
  ·have hk1:(k:Int) < 4:=by omega
   have hgp:x.gp 2=r.gp 2:=hold 2 (by omega) (by omega)
   have hc:wr.cell? ⟨w.heap.size,7,none⟩=some (.slice (r.gp 2).a (r.gp 2).l.length (r.gp 2).c):=by
    have:=zci hx (j:=7) (v:=.slice (x.gp 2).a (x.gp 2).l.length (x.gp 2).c) rfl;rw[<- hgp];exact this
   have hpk:wr.cell? ⟨w.heap.size+2,k,none⟩=some (.pointer (some ⟨w.heap.size,7,none⟩)):=by rw[hk0];exact p2
   have hfo:=hf 7;have HST:=zQ0 (fun(w2:World) (q:PN) (g2:Grew wr w2) (hq:IntsIn w2 wr.heap.size w2.heap.size q.a q.c q.l) (hqe:Hid (q.l=(r.gp 2).l))=>own_step (q:=q) (show k < 4 by omega) hx hf ht ⟨p0,p1,p2,p3⟩ hg hz hnew hold he g2 hq (by rw[hk0];exact hqe));have HOK:Hid (offP k=7):=by show _=_;rw[hk0];rfl
   have hzz:w.heap.size < wr.heap.size:=by omega
   have C:=zQ0 (CP.out 2 (by omega) wr hg);clear hx hf ht p0 p1 p2 p3 hnew hold he hk0 hgp;generalize r.gp 2=z at *;go_wp2_with fail
   refine C.out.mono ?_;rintro e w2 ⟨q,rfl,g2,hq,hqe⟩;have hc2:=(g2.cell (p:=⟨w.heap.size,7,none⟩) hzz).trans hc;have hf2:=(g2.frozen (p:=⟨w.heap.size,7,none⟩) hzz).trans hfo;have hN:=HST.out w2 q g2 hq hqe;rw[HOK.out] at hN;have HN:=zQ0 hN;clear hN HST C;go_wp2_with fail
   go_roundw
   case rel =>
    have:=HN.out
    simpa using this
   case measure=>simp[intOf];omega
  ·have hk1:(k:Int) < 4:=by omega
   have hgp:x.gp 3=r.gp 3:=hold 3 (by omega) (by omega)
   have hc:wr.cell? ⟨w.heap.size,9,none⟩=some (.slice (r.gp 3).a (r.gp 3).l.length (r.gp 3).c):=by
    have:=zci hx (j:=9) (v:=.slice (x.gp 3).a (x.gp 3).l.length (x.gp 3).c) rfl;rw[<- hgp];exact this
   have hpk:wr.cell? ⟨w.heap.size+2,k,none⟩=some (.pointer (some ⟨w.heap.size,9,none⟩)):=by rw[hk0];exact p3
   have hfo:=hf 9;have HST:=zQ0 (fun(w2:World) (q:PN) (g2:Grew wr w2) (hq:IntsIn w2 wr.heap.size w2.heap.size q.a q.c q.l) (hqe:Hid (q.l=(r.gp 3).l))=>own_step (q:=q) (show k < 4 by omega) hx hf ht ⟨p0,p1,p2,p3⟩ hg hz hnew hold he g2 hq (by rw[hk0];exact hqe));have HOK:Hid (offP k=9):=by show _=_;rw[hk0];rfl
   have hzz:w.heap.size < wr.heap.size:=by omega
   have C:=zQ0 (CP.out 3 (by omega) wr hg);clear hx hf ht p0 p1 p2 p3 hnew hold he hk0 hgp;generalize r.gp 3=z at *;go_wp2_with fail
   refine C.out.mono ?_;rintro e w2 ⟨q,rfl,g2,hq,hqe⟩;have hc2:=(g2.cell (p:=⟨w.heap.size,9,none⟩) hzz).trans hc;have hf2:=(g2.frozen (p:=⟨w.heap.size,9,none⟩) hzz).trans hfo;have hN:=HST.out w2 q g2 hq hqe;rw[HOK.out] at hN;have HN:=zQ0 hN;clear hN HST C;go_wp2_with fail
   go_roundw
   case rel =>
    have:=HN.out
    simpa using this
   case measure=>simp[intOf];omega
  ·have hk1:¬ (k:Int) < 4:=by omega
   have hxin:∀ j,j < 4->IntsIn wr (w.heap.size+3) wr.heap.size (x.gp j).a (x.gp j).c (x.gp j).l:=fun j hj=>hnew j (by omega);clear hnew hold p0 p1 p2 p3 hf hk0;have HIN:=zQ0 hxin;have HO:=zQ0 (zcm (cs:=x.cells) ht);have HK:=zQ0 (zcM (w.heap.size+1) x.cells 0 wr);clear hxin
   go_wp2_with (first | (refine wpList_load_mid rfl 46 (.tmp 1) rfl w.heap.size 0 rfl x.cells _ hx Tryz.underlying46 rfl zbq ?_) | (refine wpList_store_mid rfl 46 (.tmp 2) (.tmp 27) rfl (w.heap.size+1) 0 x.cells.toArray rfl rfl ht zbq x.cells_all ?_;generalize wr.setCells (w.heap.size+1) 0 x.cells.toArray.toList=W at *))
   have kW:=HK.out;have zW:=kW.size;have hGW:Grew w W:=hg.keep kW (fun j hj=>by show _<=j;rw[hj];omega);have hag:Agree (w.heap.size+3) wr.heap.size wr W:=kW.agree zQ1 (fun j h1 h2=>by show ¬ j=_;omega)
   have hxW:x.In W w.heap.size W.heap.size:=by
    have q:=fun j (hj:j < 4)=>(((HIN.out j hj).agree hag).mono (show w.heap.size<=_ by omega) zW:IntsIn W w.heap.size W.heap.size (x.gp j).a (x.gp j).c (x.gp j).l)
    exact⟨q 0 (by omega),q 1 (by omega),q 2 (by omega),q 3 (by omega)⟩
   exact bodyPost_ret (v:=x.val) (zcr Tryz.results102 _ W (w.heap.size+1) 0 x.cells _ rfl HO.out Tryz.underlying46 rfl zbq) rfl ⟨x,rfl,hGW,hxW,he⟩
def setR:List Value->Nat->List Value->List Value
 | xs,_,[]=>xs
 | xs,o,v::r=>setR (xs.set o v) (o+1) r
theorem setR_mid(Y:List Value):∀(P X R:List Value),X.length=Y.length->setR (P++X++R) P.length Y=P++Y++R:=by
 induction Y with
 | nil=>intro P X R h;obtain rfl:=List.length_eq_zero_iff.1 h;simp[setR]
 | cons v r ih =>
  intro P X R h
  match X,h with
  | x::X',h =>
   rw[setR];have e:(P++(x::X')++R).set P.length v=(P++[v])++X'++R:=by simp
   rw[e];have:=ih (P++[v]) X' R (by simpa using h);rw[List.length_append,List.length_singleton] at this;rw[this];simp
theorem ownsRow_setCells{base:Nat}{e:TypeId}{size g n cap:Nat}(vs:List Value):∀(o:Nat) (w:World) (xs:List Value),w.ownsRow base e size (.slice (some ⟨g,0,none⟩) n cap) n xs->(w.setCells g o vs).ownsRow base e size (.slice (some ⟨g,0,none⟩) n cap) n (setR xs o vs):=by
 induction vs with
 | nil=>intro o w xs h;exact h
 | cons v r ih=>intro o w xs h;exact ih (o+1) _ _ (h.stored o v).1
theorem made_refs(n:Nat):(madeCells #[.int .i64 0,.int .i64 0,.int .i64 0,.bool false,.slice none 0 0,.slice none 0 0,.int .i64 0,.slice none 0 0,.int .i64 0,.slice none 0 0,.int .i64 0] (n * 11)).toList=(List.replicate n RefL.nil).flatMap RefL.cells:=by
 have hz:∀ r,r < 11->(#[.int .i64 0,.int .i64 0,.int .i64 0,.bool false,.slice none 0 0,.slice none 0 0,.int .i64 0,.slice none 0 0,.int .i64 0,.slice none 0 0,.int .i64 0]:Array Value)[r]! = RefL.nil.cells.getD r undef:=fun r hr=>by
  match r,hr with
  | 0,_=>rfl
  | 1,_=>rfl
  | 2,_=>rfl
  | 3,_=>rfl
  | 4,_=>rfl
  | 5,_=>rfl
  | 6,_=>rfl
  | 7,_=>rfl
  | 8,_=>rfl
  | 9,_=>rfl
  | 10,_=>rfl
 refine List.ext_getElem? (fun i=>?_)
 by_cases hi:i < n * 11
 ·have h1:i / 11 < n:=by omega
  have h2:i % 11 < 11:=by omega
  have h3:=flat_at RefL.cells_len (List.replicate n RefL.nil) (i / 11) (by simpa using h1) (i % 11) h2;rw[show i / 11 * 11+i % 11=i by omega] at h3;rw[h3];have e:(List.replicate n RefL.nil).getD (i / 11) default=RefL.nil:=by simp[List.getD,h1]
  rw[e,<- hz _ h2];unfold madeCells;rw[Array.toList_map]
  simp[hi]
 ·rw[List.getElem?_eq_none (by simp[size_madeCells];omega),List.getElem?_eq_none (by rw[flat_len RefL.cells_len];simp;omega)]
theorem fill_refs(A:List RefL)(m:Nat)(x:RefL):setR ((A++List.replicate (m+1) RefL.nil).flatMap RefL.cells) (A.length * 11) x.cells=((A++[x])++List.replicate m RefL.nil).flatMap RefL.cells:=by
 have:=setR_mid x.cells (A.flatMap RefL.cells) RefL.nil.cells ((List.replicate m RefL.nil).flatMap RefL.cells) (by rw[RefL.cells_len,RefL.cells_len]);rw[flat_len RefL.cells_len] at this;rw[List.replicate_succ,List.flatMap_append,List.flatMap_cons,<- List.append_assoc,this]
 simp
theorem there_part{w:World}{b n:Nat}(h:w.there b 0 n){o m:Nat}(hm:o+m<=n):w.there b o m:=fun j hj=>by
 have:=h (o+j) (by omega);rw[Nat.zero_add] at this;exact this
theorem own_there{w:World}{base:Nat}{e:TypeId}{size g n cap:Nat}{xs:List Value}(h:w.ownsRow base e size (.slice (some ⟨g,0,none⟩) n cap) n xs):w.there g 0 (n * size):=fun j hj=>by
 rw[Nat.zero_add,h.cellAt j hj,h.frozenAt j];have:=h.1;rw[List.getElem?_eq_getElem (by omega)];exact⟨rfl,rfl⟩
theorem setCells_keepsAt(b:Nat):∀(vs:List Value) (o:Nat) (w:World),Keeps (·=b) w (w.setCells b o vs)
 | [],_,w=>Keeps.refl _ w
 | v::r,o,w=>((Keeps.refl (·=b) w).own o v).trans (setCells_keepsAt b r (o+1) _)
theorem newBox{w F:World}{cs:List Value}{ds:Array Value}{t:TypeId}(hF:(w.alloc (.cells ds t)).setCells w.heap.size 0 cs=F)(hl:ds.size=cs.length):F.rangeAt w.heap.size 0 cs/\Grew w F/\w.heap.size < F.heap.size:=by
 subst hF;have ht:=zc5 (Grew.refl (w.alloc (.cells ds t)));rw[hl] at ht;have hk:=zcM w.heap.size cs 0 (w.alloc (.cells ds t));refine⟨zcm ht,(Grew.alloc1 w _).keep hk (fun x hx=>by omega),?_⟩;have:=hk.size;rw[World.size_alloc] at this;omega
def RefsOwn(w w':World)(c:Nat)(L:List RefL):Prop:=w'.ownsRow w.heap.size 46 11 (.slice (some ⟨w.heap.size,0,none⟩) L.length c) L.length (L.flatMap RefL.cells)/\∀ r∈L,r.In w' (w.heap.size+1) w'.heap.size
def RetRefs(l:List RefE)(w:World)(e:Ending)(w':World):Prop:=∃(L:List RefL),e=.returned (.slice (some ⟨w.heap.size,0,none⟩) L.length L.length)/\Grew w w'/\RefsOwn w w' L.length L/\Hid (L.map RefL.er=l)
def AllAt(L0:List RefL)(w:World)(i:Value)(wr:World):Prop:=∃(k:Nat) (M:List RefL),k<=L0.length/\M.length=k/\i=.int .i64 k/\wr.ownsRow w.heap.size 46 11 (.slice (some ⟨w.heap.size,0,none⟩) L0.length L0.length) L0.length ((M++List.replicate (L0.length - k) RefL.nil).flatMap RefL.cells) /\
 Grew w wr/\w.heap.size+1<=wr.heap.size/\(∀ r∈M,r.In wr (w.heap.size+1) wr.heap.size)/\Hid (M.map RefL.er=(L0.take k).map RefL.er)
theorem holdAll_any(a:Option Addr)(c:Nat)(L:List RefL)(w:World)(hL:RefsIn w a c L)(hs:∀ r∈L,r.er.Small)(hl:L.length<=1048576):Calls Tryz.prog 50 #[.slice a L.length c] w (RetRefs (L.map RefL.er) w):=by
 obtain⟨i0,hi,hz0,hz1,hz2⟩:=info_parts infoRefF;have hmk:=run_make (P:=Tryz.prog) w 50 46 i0 _ Tryz.underlying50 hi hz0 .i64 .i64 L.length L.length (by omega) (Int.le_refl _) (by rw[hz2];omega) (by omega);rw[hz1] at hmk;simp only[Int.toNat_natCast] at hmk
 have hst:AllAt L w (.int .i64 (0:Nat)) (w.alloc (.cells (madeCells #[.int .i64 0,.int .i64 0,.int .i64 0,.bool false,.slice none 0 0,.slice none 0 0,.int .i64 0,.slice none 0 0,.int .i64 0,.slice none 0 0,.int .i64 0] (L.length * 11)) 46)):=by
  refine⟨0,[],by omega,rfl,rfl,?_,Grew.alloc1 _ _,by simp,(fun r hr=>by cases hr),rfl⟩;have:=World.ownsRow_lit (e:=46) (size:=11) w (madeCells #[.int .i64 0,.int .i64 0,.int .i64 0,.bool false,.slice none 0 0,.slice none 0 0,.int .i64 0,.slice none 0 0,.int .i64 0,.slice none 0 0,.int .i64 0] (L.length * 11)) L.length zQ1 (by unfold maxLen;omega) (size_madeCells _ _);rw[made_refs] at this
  simpa using this
 have HS:=zQ0 hs;clear hs hi hz0 hz1 hz2
 go_enter Tryz.func50,Tryz.ntmps50
 go_wp2_with fail
 generalize w.alloc (.cells (madeCells #[.int .i64 0,.int .i64 0,.int .i64 0,.bool false,.slice none 0 0,.slice none 0 0,.int .i64 0,.slice none 0 0,.int .i64 0,.slice none 0 0,.int .i64 0] (L.length * 11)) 46)=w1 at *
 go_loopw [11] (fun i wr=>AllAt L w i wr) (fun i _=>L.length - (intOf i).toNat)
 case atStart=>exact hst
 case round =>
  clear hst hmk;obtain⟨k,M,hk,hM,rfl,hown,hg,hz,hin,he⟩:=hrel
  by_cases hlt:k < L.length
  ·obtain⟨lb,lo,rfl,_,hlb,hra⟩:=(hL.grew hg).1.at hlt;have hm:=zbd L k hlt;have hrin:=(hL.grew hg).2 _ hm;have hsm:=HS.out _ hm;have HTK:=zQ0 (zc2 L k hlt);have hth:=own_there hown;have HNB:=zQ0 (fun(F:World) (hF:(wr.alloc (.cells #[.int .i64 0,.int .i64 0,.int .i64 0,.bool false,.slice none 0 0,.slice none 0 0,.int .i64 0,.slice none 0 0,.int .i64 0,.slice none 0 0,.int .i64 0] 46)).setCells wr.heap.size 0 (L.getD k default).cells=F)=>newBox hF rfl);have HTH:=zQ0 (zc5 (Grew.refl (wr.alloc (.cells #[.int .i64 0,.int .i64 0,.int .i64 0,.bool false,.slice none 0 0,.slice none 0 0,.int .i64 0,.slice none 0 0,.int .i64 0,.slice none 0 0,.int .i64 0] 46))));have hgA:=Grew.alloc1 wr (.cells #[.int .i64 0,.int .i64 0,.int .i64 0,.bool false,.slice none 0 0,.slice none 0 0,.int .i64 0,.slice none 0 0,.int .i64 0,.slice none 0 0,.int .i64 0] 46);have hraA:=zcj hra hgA hlb;generalize L.getD k default=x at *
   go_wp2_with (first | (refine wpList_load_mid rfl 46 (.tmp 14) rfl lb (lo+k * 11) rfl x.cells _ hra Tryz.underlying46 rfl zbq ?_) | (refine wpList_store_mid rfl 46 (.tmp 5) (.tmp 15) rfl wr.heap.size 0 x.cells.toArray rfl rfl HTH.out zbq x.cells_all ?_;generalize hF:(wr.alloc _).setCells _ _ _=w2;obtain⟨hr2,g2,z2⟩:=HNB.out w2 hF;clear hF HNB HTH) | (refine wpList_load_mid rfl 46 (.tmp 5) rfl wr.heap.size 0 rfl x.cells _ hr2 Tryz.underlying46 rfl zbq ?_))
   have z2':=g2.size;refine (holdOwn_any x w2 (hrin.later g2) hsm).mono ?_;rintro e w3 ⟨y,rfl,g3,hy,hye⟩;have hown3:=zb4 hown (g2.trans g3);have ht3:=there_part (own_there hown3) (o:=k * 11) (m:=y.cells.toArray.size) (by rw[List.size_toArray,RefL.cells_len];omega);have z3:=g3.size;have hin3:∀ r∈M,r.In w3 (w.heap.size+1) wr.heap.size:=fun r hr=>(hin r hr).grew (g2.trans g3) zQ1
   have HX:=zQ0 (fun(W:World) (hW:w3.setCells w.heap.size (k * 11) y.cells.toArray.toList=W)=>(show AllAt L w (.int .i64 ((k+1:Nat):Int)) W from by
    have hkW:Keeps (·=w.heap.size) w3 W:=by
     rw[<- hW];exact setCells_keepsAt w.heap.size _ _ _
    have hag:∀ lo hi,w.heap.size < lo->hi<=w3.heap.size->Agree lo hi w3 W:=fun lo hi h1 h2=>hkW.agree h2 (fun j h3 h4=>by show ¬ j=_;omega);have zW:=hkW.size;refine⟨k+1,M++[y],by omega,by simp[hM],rfl,?_,(hg.trans (g2.trans g3)).keep hkW (fun j hj=>by show _<=j;rw[hj];exact Nat.le_refl _),by omega,fun r hr=>?_,?_⟩
    ·have h1:=ownsRow_setCells y.cells (k * 11) w3 _ hown3;have e:L.length - k=(L.length - (k+1))+1:=by omega
     have hf:=fill_refs M (L.length - (k+1)) y;rw[hM,<- e] at hf;rw[hf] at h1;rw[<- hW];exact h1
    ·rcases List.mem_append.1 hr with hr | hr
     ·exact ((hin3 r hr).agree (hag _ _ (by omega) (by omega))).mono zQ1 (by omega)
     ·obtain rfl:=List.mem_singleton.1 hr;exact (hy.agree (hag _ _ (by omega) zQ1)).mono (by omega) (by omega)
    ·show _=_
     rw[List.map_append,he.out,HTK.out,List.map_append,List.map_cons,List.map_nil,hye.out]
     rfl))
   clear hin3 hin he hown hown3 hth hra hraA hr2 HTK;unfold RefL.val
   go_wp2_with (refine wpList_store_mid rfl 46 (.tmp 20) (.tmp 19) rfl w.heap.size (k * 11) y.cells.toArray rfl rfl ht3 zbq y.cells_all ?_;generalize hW:w3.setCells _ _ _=W;have hN:=zQ0 (HX.out W hW);clear hW)
   go_roundw
   case rel=>exact hN.out
   case measure=>simp[intOf];omega
  ·obtain rfl:k=L.length:=by omega
   rw[Nat.sub_self,List.replicate_zero,List.append_nil] at hown;go_wp2_with fail
   go_ret
   refine⟨M,by rw[hM];rfl,hg,⟨by rw[hM];exact hown,hin⟩,?_⟩
   show _=_
   rw[he.out,List.take_length]
theorem zc7(a b:ByteArray):(a.toList == b.toList)=decide (a=b):=by
 rw[ByteArray.toList_eq,ByteArray.toList_eq];obtain⟨⟨x⟩⟩:=a;obtain⟨⟨y⟩⟩:=b;rw[Bool.eq_iff_iff]
 simp
def zbl{α:Type}(pr:α->Bool)(l:List α):Int:=match l.findIdx? pr with
 | some i=>i
 | none=>-1
theorem idxOf_found{α:Type}[Inhabited α]{pr:α->Bool}{l:List α}{k:Nat}(hk:k < l.length)(h:pr (l.getD k default)=true)(hall:∀ j,j < k->pr (l.getD j default)=false):zbl pr l=k:=by
 have:l.findIdx? pr=some k:=by
  rw[List.findIdx?_eq_some_iff_getElem];refine⟨hk,?_,fun j hj=>?_⟩
  ·simpa [List.getD,List.getElem?_eq_getElem hk] using h
  ·have:=hall j hj
   simpa [List.getD,List.getElem?_eq_getElem (show j < l.length by omega)] using this
 unfold zbl;rw[this]
theorem idxOf_none{α:Type}[Inhabited α]{pr:α->Bool}{l:List α}(hall:∀ j,j < l.length->pr (l.getD j default)=false):zbl pr l=-1:=by
 have:l.findIdx? pr=none:=by
  rw[List.findIdx?_eq_none_iff];intro x hx;obtain⟨j,hj,rfl⟩:=List.getElem_of_mem hx
  simpa [List.getD,List.getElem?_eq_getElem hj] using hall j hj
 unfold zbl;rw[this]
def getP(k:ByteArray)(ps:List zab):Option ByteArray:=(ps.find? (fun p=>decide (p.1=k))).map (·.2)
theorem equalProps_any(a b:Option Addr)(c d:Nat)(xs ys:List zab)(w:World)(lo hi lo' hi':Nat)(hx:PropsIn w lo hi a c xs)(hy:PropsIn w lo' hi' b d ys)(hl:xs.length<=1048576)(hl2:ys.length<=1048576)(hh:hi<=w.heap.size)(hh':hi'<=w.heap.size) :
  Calls Tryz.prog 154 #[.slice a xs.length c,.slice b ys.length d] w fun e w'=>e=.returned (.bool (decide (xs=ys)))/\Grew w w':=by
 by_cases hne:xs.length=ys.length
 ·have heq:((xs.length:Int) != ys.length)=false:=by simp[hne]
  have HL:=zQ0 hne;have hle:xs.length<=ys.length:=by omega
  clear hne
  go_enter Tryz.func154,Tryz.ntmps154
  go_wp2_with fail
  go_loopw [13] (fun i wr=>∃(k:Nat),k<=xs.length/\i=.int .i64 k/\Grew w wr/\xs.take k=ys.take k) (fun i _=>xs.length - (intOf i).toNat)
  case atStart=>exact⟨0,by omega,rfl,Grew.refl _,by simp⟩
  case round =>
   obtain⟨k,hk1,rfl,hg,he⟩:=hrel;have HE:=zQ0 he;clear he
   by_cases hlt:k < xs.length
   ·obtain⟨b1,o1,rfl,_,_,hc1,hd1⟩:=(hx.grew hg hh).at hlt;obtain⟨b2,o2,rfl,_,_,hc2,hd2⟩:=(hy.grew hg hh').at (j:=k) (by omega);have hy1:(k:Int) < (ys.length:Int):=by omega
    by_cases hxy:xs.getD k default=ys.getD k default
    ·have ht1:((xs.getD k default).1.toList == (ys.getD k default).1.toList)=true:=by rw[hxy];simp
     have ht2:((xs.getD k default).2.toList == (ys.getD k default).2.toList)=true:=by rw[hxy];simp
     have HX:Hid (xs.take (k+1)=ys.take (k+1)):=by
      show _=_
      rw[zc2 xs k hlt,zc2 ys k (by omega),HE.out,hxy]
     clear hxy;generalize xs.getD k default=p at *;generalize ys.getD k default=q at *;go_wp2_with fail
     go_quiet (fail)
     go_wp2_with fail
     go_roundw
     case rel=>exact⟨k+1,by omega,by go_num,hg.drewN _,HX.out⟩
     case measure=>simp[intOf];omega
    ·have hne:=zbQ hxy;have HN:Hid (decide (xs=ys)=false):=by show _=_;simp[hne]
     clear hne
     by_cases h1:(xs.getD k default).1=(ys.getD k default).1
     ·have h2:¬ (xs.getD k default).2=(ys.getD k default).2:=fun e=>hxy (Prod.ext h1 e);have ht1:((xs.getD k default).1.toList == (ys.getD k default).1.toList)=true:=by rw[zc7];simpa using h1
      have ht2:((xs.getD k default).2.toList == (ys.getD k default).2.toList)=false:=by rw[zc7];simpa using h2
      clear hxy h1 h2;generalize xs.getD k default=p at *;generalize ys.getD k default=q at *;go_wp2_with fail
      go_quiet (fail)
      go_wp2_with fail
      go_ret
      exact⟨zcy (by rw[HN.out]),hg.drewN _⟩
     ·have ht1:((xs.getD k default).1.toList == (ys.getD k default).1.toList)=false:=by rw[zc7];simpa using h1
      clear hxy h1;generalize xs.getD k default=p at *;generalize ys.getD k default=q at *;go_wp2_with fail
      go_quiet (fail)
      go_wp2_with fail
      go_ret
      exact⟨zcy (by rw[HN.out]),hg.drewN _⟩
   ·have HN:Hid (decide (xs=ys)=true):=by
     show _=_
     have:=HE.out;rw[List.take_of_length_le (by omega),List.take_of_length_le (by have:=HL.out;omega)] at this
     simp[this]
    go_wp2_with fail
    go_ret
    exact⟨zcy (by rw[HN.out]),hg⟩
 ·have heq:((xs.length:Int) != ys.length)=true:=by simp;omega
  have HN:Hid (decide (xs=ys)=false):=by
   show _=_
   simp only[decide_eq_false_iff_not];intro e;exact hne (by rw[e])
  clear hne
  go_enter Tryz.func154,Tryz.ntmps154
  go_wp2_with fail
  go_ret
  exact⟨zcy (by rw[HN.out]),Grew.refl _⟩
theorem propSame_any(a b:Option Addr)(c d:Nat)(xs ys:List zab)(w:World)(lo hi lo' hi':Nat)(hx:PropsIn w lo hi a c xs)(hy:PropsIn w lo' hi' b d ys)(hl:xs.length<=1048576)(hl2:ys.length<=1048576)(hh:hi<=w.heap.size)(hh':hi'<=w.heap.size) :
  Calls Tryz.prog 119 #[.slice a xs.length c,.slice b ys.length d] w fun e w'=>e=.returned (.bool (decide (xs=ys)))/\Grew w w':=by
 have C:=zQ0 (equalProps_any a b c d xs ys w lo hi lo' hi' hx hy hl hl2 hh hh')
 go_enter Tryz.func119,Tryz.ntmps119
 go_wp2_with fail
 refine C.out.mono ?_;rintro e w' ⟨rfl,hg⟩;go_wp2_with fail
 go_ret
 exact⟨rfl,hg⟩
end Go.Proofs.YtccobobnmpafbaaGreatDoor
