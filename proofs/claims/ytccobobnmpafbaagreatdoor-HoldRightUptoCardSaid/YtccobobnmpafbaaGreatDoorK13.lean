/- back.own: the contract. -/
import Derived.Test.YtccobobnmpafbaaGreatDoorK12
import Derived.Test.YtccobobnmpafbaaGreatDoorK02
import Derived.Test.YtccobobnmpafbaaGreatDoorK04
import Derived.Test.YtccobobnmpafbaaGreatDoorK05
set_option maxRecDepth 100000
set_option maxHeartbeats 100000000
namespace Go.Proofs.YtccobobnmpafbaaGreatDoor
open Go Go.RowKit
section
variable {P:Program} {ops:Array Oper} {Q:Exit->Act->World->Prop} {md:Region.Mode} {S:World->Prop} {need:Nat->Bool}
theorem wpAnyN_firstP{i:Nat}{oi:Oper}{v:Value}(hi:ops[i]? = some oi)(hsel:∀(j:Nat) (o:Oper) cs b,ops[j]? = some o->o.op≠.select cs b)(hQ:∀ c a w,Q (.panic c) (a.put oi.dst v) w->Q (.panic c) a w)(hni:need i=false) :
  ∀(fuel:Nat) (listed:Array Bool) (a:Act) (w:World),
   (∀ j oj,ops[j]? = some oj->j≠i->listed.getD j true=false->(∀ e∈oj.after,Region.binds md e=true->e.on≠i)->oi.apart ops oj=true) ->
   i∈Region.ready md ops listed->YieldsIf P ops (fun _=>True) oi v a ->
   zdc P md ops Q S need fuel (listed.setIfInBounds i true) (a.put oi.dst v) w->zdc P md ops Q S need (fuel+1) listed a w:=by
 have hno:∀ w:World,need i=true->S w:=fun w h=>by rw[hni] at h;cases h
 intro fuel
 induction fuel with
 | zero =>
  intro listed a w _ hr hy H;refine⟨fun h=>(by rw[h] at hr;cases hr),fun j hj=>?_⟩
  by_cases hji:j=i
  ·subst hji;exact hy.wpOp hi trivial ⟨hno _,H⟩
  ·have h1:=ready_mono hj hji;rw[H.1] at h1
   cases h1
 | succ fuel ih =>
  intro listed a w hfree hr hy H;have hun:=(mem_ready.1 hr).1;refine⟨fun h=>(by rw[h] at hr;cases hr),fun j hj=>?_⟩
  by_cases hji:j=i
  ·subst hji;exact hy.wpOp hi trivial ⟨hno _,H⟩
  ·have h1:=H.2 j (ready_mono hj hji);obtain⟨hjun,oj,hoj,hall⟩:=mem_ready.1 hj
   have hnot:∀ e∈oj.after,Region.binds md e=true->e.on≠i:=fun e he hb heq=>by
    have h2:=hall e he hb;rw[heq] at h2
    rcases Nat.lt_or_ge i listed.size with h' | h'
    ·simp[h'] at hun h2;rw[hun] at h2;cases h2
    ·simp[Array.getElem?_eq_none h'] at h2
   have hap:=hfree j oj hoj hji hjun hnot;have h2:=wpOp_putIf hoj hap (fun cs b=>hsel i oi cs b hi) (fun cs b=>hsel j oj cs b hoj) hQ hy h1
   have hfree':∀ k ok,ops[k]? = some ok->k≠i->(listed.setIfInBounds j true).getD k true=false ->
     (∀ e∈ok.after,Region.binds md e=true->e.on≠i)->oi.apart ops ok=true:=fun k ok hk hki hku hno=>by
    refine hfree k ok hk hki ?_ hno
    by_cases hjk:j=k
    ·subst hjk;exact hjun
    ·rw[getD_set_ne true hjk] at hku;exact hku
   refine wpOp_mono (fun a' w' h3=>⟨fun hn=>h3.2.1 hn,ih (listed.setIfInBounds j true) a' w' hfree' (ready_mono hr (Ne.symm hji)) h3.1 ?_⟩) h2;rw[Array.setIfInBounds_comm _ _ hji];exact h3.2.2
theorem zdg{i:Nat}{oi:Oper}{v:Value}{fuel:Nat}{listed:Array Bool}{a:Act}{w:World}(hi:ops[i]? = some oi)(hs:Region.noSelect ops=true)(hf:Region.free md ops listed i=true)(hni:need i=false)(hr:(Region.ready md ops listed).contains i=true)(hQ:∀ c a w,Q (.panic c) (a.put oi.dst v) w->Q (.panic c) a w)(hy:YieldsIf P ops (fun _=>True) oi v a)(h:zdc P md ops Q S need fuel (listed.setIfInBounds i true) (a.put oi.dst v) w):zdc P md ops Q S need (fuel+1) listed a w :=
 wpAnyN_firstP hi (Region.noSelect_spec hs) hQ hni fuel listed a w (fun j oj hj hji hun hno=>Region.free_spec hi hf j oj hj hji hun hno) (by simpa using hr) hy h
end
def OpL.zcells:List Value:=(OpL.of 0 PN.nil PN.nil 0 NT.zero none 0 []).cells
theorem ints_at32(l:List Int):∀ i,i < l.length->∀ j,j < 1->(l.map (Value.int .i32))[i * 1+j]? = some (.int .i32 (l.getD i 0)):=fun i hi j hj=>by
 obtain rfl:j=0:=by omega
 simp[List.getElem?_map,List.getElem?_eq_getElem hi,List.getD]
def OBox(w:World)(cs:List Value)(wr:World):Prop:=wr.rangeAt w.heap.size 0 cs/\wr.there w.heap.size 0 21/\wr.there (w.heap.size+1) 0 21/\Grew w wr/\w.heap.size+2<=wr.heap.size
theorem OBox.grew{w wr w2:World}{cs:List Value}(h:OBox w cs wr)(g:Grew wr w2):OBox w cs w2:=by
 obtain⟨h1,h2,h3,h4,h5⟩:=h;exact⟨zcj h1 g (by omega),zc4 h2 g (by omega),zc4 h3 g (by omega),h4.trans g,Nat.le_trans h5 g.size⟩
theorem zc6{w:World}{b o n:Nat}(h:w.there b o n)(p:Addr)(v:Value):(w.setCell p v).there b o n:=fun j hj=>by
 obtain⟨h1,h2⟩:=h j hj;refine⟨?_,by rw[World.frozen?_setCell];exact h2⟩
 by_cases he:p=⟨b,o+j,none⟩
 ·subst he;obtain⟨v0,hv⟩:=Option.isSome_iff_exists.1 h1;rw[zaw hv];rfl
 ·rw[zav he];exact h1
theorem OBox.set{w wr:World}{cs:List Value}(h:OBox w cs wr){j:Nat}(hj:j < cs.length)(v:Value):OBox w (cs.set j v) (wr.setCell ⟨w.heap.size,j,none⟩ v):=by
 obtain⟨h1,h2,h3,h4,h5⟩:=h;exact⟨zcn h1 hj v,zc6 h2 _ _,zc6 h3 _ _,h4.setCell zQ1 _,by rw[World.size_setCell];exact h5⟩
theorem own_agree{w wr:World}{hi j:Nat}{v:Value}:Agree (w.heap.size+2) hi wr (wr.setCell ⟨w.heap.size,j,none⟩ v):=zaf (Or.inl (show w.heap.size < w.heap.size+2 by omega))
theorem ownBox6{w wr:World}{cs:List Value}(h:OBox w cs wr)(v8 v9 v4 v5 v6 v7:Value)(hl:cs.length=21:=by rfl):OBox w ((((((cs.set 8 v8).set 9 v9).set 4 v4).set 5 v5).set 6 v6).set 7 v7) ((((((wr.setCell ⟨w.heap.size,8,none⟩ v8).setCell ⟨w.heap.size,9,none⟩ v9).setCell ⟨w.heap.size,4,none⟩ v4).setCell ⟨w.heap.size,5,none⟩ v5).setCell ⟨w.heap.size,6,none⟩ v6).setCell ⟨w.heap.size,7,none⟩ v7) :=
 (((((h.set (by omega) v8).set (by simp only[List.length_set];omega) v9).set (by simp only[List.length_set];omega) v4).set (by simp only[List.length_set];omega) v5).set (by simp only[List.length_set];omega) v6).set (by simp only[List.length_set];omega) v7
def OwnA(lo:Nat)(x:OpL)(wr:World):Prop:=IntsIn wr lo wr.heap.size x.path.a x.path.c x.path.l/\IntsIn wr lo wr.heap.size x.dest.a x.dest.c x.dest.l/\RunesIn wr lo wr.heap.size x.xa x.xc x.text
def OwnC(lo:Nat)(x:OpL)(wr:World):Prop:=PropsIn wr lo wr.heap.size x.oa x.oc x.old/\PropsIn wr lo wr.heap.size x.na x.nc x.new/\x.node.In wr lo wr.heap.size
theorem OwnA.agree{lo:Nat}{x:OpL}{wr w2:World}(h:OwnA lo x wr)(ha:Agree lo wr.heap.size wr w2)(hz:wr.heap.size<=w2.heap.size):OwnA lo x w2 :=
 ⟨(IntsIn.agree h.1 ha).mono zQ1 hz,(IntsIn.agree h.2.1 ha).mono zQ1 hz,(RunesIn.agree h.2.2 ha).mono zQ1 hz⟩
theorem OwnC.agree{lo:Nat}{x:OpL}{wr w2:World}(h:OwnC lo x wr)(ha:Agree lo wr.heap.size wr w2)(hz:wr.heap.size<=w2.heap.size):OwnC lo x w2 :=
 ⟨(RowIn.agree h.1 ha).mono zQ1 hz,(RowIn.agree h.2.1 ha).mono zQ1 hz,(NT.In.agree h.2.2 ha).mono zQ1 hz⟩
def OpL.gp(o:OpL):Nat->PN
 | 0=>o.src.a.p
 | 1=>o.src.f.p
 | 2=>o.dst.a.p
 | _=>o.dst.f.p
def OpL.sp(o:OpL)(q:PN):Nat->OpL
 | 0=>{ o with src:={ o.src with a:=⟨q,o.src.a.o⟩ } }
 | 1=>{ o with src:={ o.src with f:=⟨q,o.src.f.o⟩ } }
 | 2=>{ o with dst:={ o.dst with a:=⟨q,o.dst.a.o⟩ } }
 | _=>{ o with dst:={ o.dst with f:=⟨q,o.dst.f.o⟩ } }
def offO:Nat->Nat
 | 0=>12
 | 1=>14
 | 2=>17
 | _=>19
theorem osp_cells(x:OpL)(q:PN)(j:Nat):(x.sp q j).cells=x.cells.set (offO j) (.slice q.a q.l.length q.c):=by
 match j with
 | 0=>rfl
 | 1=>rfl
 | 2=>rfl
 | _+3=>rfl
theorem osp_er(x:OpL)(q:PN)(j:Nat)(h:q.l=(x.gp j).l):(x.sp q j).er=x.er:=by
 match j,h with
 | 0,h=>simp only[OpL.sp,OpL.er,OpL.gp,SelL.er,PtL.er] at h ⊢;rw[h]
 | 1,h=>simp only[OpL.sp,OpL.er,OpL.gp,SelL.er,PtL.er] at h ⊢;rw[h]
 | 2,h=>simp only[OpL.sp,OpL.er,OpL.gp,SelL.er,PtL.er] at h ⊢;rw[h]
 | _+3,h=>simp only[OpL.sp,OpL.er,OpL.gp,SelL.er,PtL.er] at h ⊢;rw[h]
theorem osp_gp(x:OpL)(q:PN)(j i:Nat)(hj:j < 4)(hi:i < 4):(x.sp q j).gp i=if i=j then q else x.gp i:=by
 have hj':j=0\/j=1\/j=2\/j=3:=by omega
 have hi':i=0\/i=1\/i=2\/i=3:=by omega
 rcases hj' with rfl | rfl | rfl | rfl <;> rcases hi' with rfl | rfl | rfl | rfl <;> rfl
theorem osp_A{lo:Nat}{x:OpL}{wr:World}(q:PN)(j:Nat)(h:OwnA lo x wr):OwnA lo (x.sp q j) wr:=by
 match j with
 | 0=>exact h
 | 1=>exact h
 | 2=>exact h
 | _+3=>exact h
theorem osp_C{lo:Nat}{x:OpL}{wr:World}(q:PN)(j:Nat)(h:OwnC lo x wr):OwnC lo (x.sp q j) wr:=by
 match j with
 | 0=>exact h
 | 1=>exact h
 | 2=>exact h
 | _+3=>exact h
def OwnOp(o:OpL)(w:World)(B:Nat)(i:Value)(wr:World):Prop:=∃(k:Nat) (x:OpL),k<=4/\i=.int .i64 k/\OBox w x.cells wr/\OwnA (w.heap.size+2) x wr/\OwnC (w.heap.size+2) x wr/\(w.heap.size+2<=B/\B < wr.heap.size) /\
 (wr.cell? ⟨B,0,none⟩=some (.pointer (some ⟨w.heap.size,12,none⟩))/\wr.cell? ⟨B,1,none⟩=some (.pointer (some ⟨w.heap.size,14,none⟩))/\wr.cell? ⟨B,2,none⟩=some (.pointer (some ⟨w.heap.size,17,none⟩))/\wr.cell? ⟨B,3,none⟩=some (.pointer (some ⟨w.heap.size,19,none⟩))) /\
 (∀ j,j < k->IntsIn wr (w.heap.size+2) wr.heap.size (x.gp j).a (x.gp j).c (x.gp j).l)/\(∀ j,k<=j->j < 4->x.gp j=o.gp j)/\Hid (x.er=o.er)
theorem ownOp_step{o x:OpL}{w wr w2:World}{B k:Nat}{q:PN}(hk:k < 4)(hb:OBox w x.cells wr)(hA:OwnA (w.heap.size+2) x wr)(hC:OwnC (w.heap.size+2) x wr)(hB:w.heap.size+2<=B/\B < wr.heap.size)(hp:wr.cell? ⟨B,0,none⟩=some (.pointer (some ⟨w.heap.size,12,none⟩))/\wr.cell? ⟨B,1,none⟩=some (.pointer (some ⟨w.heap.size,14,none⟩))/\wr.cell? ⟨B,2,none⟩=some (.pointer (some ⟨w.heap.size,17,none⟩))/\wr.cell? ⟨B,3,none⟩=some (.pointer (some ⟨w.heap.size,19,none⟩)))(hnew:∀ j,j < k->IntsIn wr (w.heap.size+2) wr.heap.size (x.gp j).a (x.gp j).c (x.gp j).l)(hold:∀ j,k<=j->j < 4->x.gp j=o.gp j)(he:Hid (x.er=o.er))(g2:Grew wr w2)(hq:IntsIn w2 wr.heap.size w2.heap.size q.a q.c q.l)(hqe:Hid (q.l=(o.gp k).l)):OwnOp o w B (.int .i64 ((k+1:Nat):Int)) (w2.setCell ⟨w.heap.size,offO k,none⟩ (.slice q.a q.l.length q.c)):=by
 have z2:=g2.size;have zb:=hb.2.2.2.2;have hag:Agree (w.heap.size+2) w2.heap.size w2 (w2.setCell ⟨w.heap.size,offO k,none⟩ (.slice q.a q.l.length q.c)):=own_agree;have hag2:Agree (w.heap.size+2) wr.heap.size wr (w2.setCell ⟨w.heap.size,offO k,none⟩ (.slice q.a q.l.length q.c)):=((g2.agree zQ1).mono (Nat.zero_le _) zQ1).trans (hag.mono zQ1 z2);have hz:wr.heap.size<=(w2.setCell ⟨w.heap.size,offO k,none⟩ (.slice q.a q.l.length q.c)).heap.size:=by rw[World.size_setCell];exact z2
 have hc:∀ j,(w2.setCell ⟨w.heap.size,offO k,none⟩ (.slice q.a q.l.length q.c)).cell? ⟨B,j,none⟩=wr.cell? ⟨B,j,none⟩:=fun j=>(zav (fun he=>by injection he with h1;omega)).trans (g2.cell (p:=⟨B,j,none⟩) hB.2);refine⟨k+1,x.sp q k,by omega,rfl,?_,osp_A q k (hA.agree hag2 hz),osp_C q k (hC.agree hag2 hz),⟨hB.1,Nat.lt_of_lt_of_le hB.2 hz⟩,⟨(hc _).trans hp.1,(hc _).trans hp.2.1,(hc _).trans hp.2.2.1,(hc _).trans hp.2.2.2⟩,fun j hj=>?_,fun j h1 h2=>?_,?_⟩
 ·rw[osp_cells];exact (hb.grew g2).set (by rw[OpL.cells_len];unfold offO;split <;> omega) _
 ·rw[osp_gp x q k j hk (by omega)]
  split
  ·exact (IntsIn.agree hq (hag.mono (by omega) zQ1)).mono (by omega) (by simp)
  ·exact (IntsIn.agree (hnew j (by omega)) hag2).mono zQ1 hz
 ·rw[osp_gp x q k j hk h2,if_neg (by omega)];exact hold j (by omega) h2
 ·show _=_
  rw[osp_er x q k (by rw[hqe.out,hold k zQ1 hk])];exact he.out
def RetOpN(r:OpE)(w:World)(e:Ending)(w':World):Prop:=∃ x:OpL,e=.returned x.val/\Grew w w'/\x.In w' w.heap.size w'.heap.size/\Hid (x.er=r)
theorem backOwn_any(o:OpL)(w:World)(ho:o.In w 0 w.heap.size)(hs:o.er.Small):Calls Tryz.prog 127 #[o.val] w (RetOpN o.er w):=by
 have later:∀ {w1},Grew w w1->o.In w1 0 w1.heap.size:=fun g=>(ho.grew g zQ1).mono zQ1 g.size;have C1:=zQ0 (fun w1 (g:Grew w w1)=>zaU o.path.a o.path.c o.path.l w1 (later g).1.1 hs.1.1);have C2:=zQ0 (fun w1 (g:Grew w w1)=>zaU o.dest.a o.dest.c o.dest.l w1 (later g).1.2 hs.1.2);have C3:=zQ0 (fun w1 (g:Grew w w1)=>cloneRunesR_any o.xa o.xc o.text w1 0 w1.heap.size (later g).2.2.2.2.1 zQ1 hs.2.2.2.2.1);have C4:=zQ0 (fun w1 (g:Grew w w1)=>zaV o.oa o.oc o.old w1 0 w1.heap.size (later g).2.2.1 zQ1 hs.2.2.1);have C5:=zQ0 (fun w1 (g:Grew w w1)=>zaV o.na o.nc o.new w1 0 w1.heap.size (later g).2.2.2.1 zQ1 hs.2.2.2.1);have C6:=zQ0 (fun w1 (g:Grew w w1)=>copy_any o.node w1 (NT.In.ok (later g).2.1 zQ1) hs.2.1)
 have CP:=zQ0 (fun(j:Nat) (hj:j < 4) w1 (hg:Grew w w1)=>zaU (o.gp j).a (o.gp j).c (o.gp j).l w1 (by
  have h:=(later hg).2.2.2.2.2;have hj':j=0\/j=1\/j=2\/j=3:=by omega
  rcases hj' with rfl | rfl | rfl | rfl
  ·exact h.1.1
  ·exact h.1.2
  ·exact h.2.1
  ·exact h.2.2) (by
  have h:=hs.2.2.2.2.2;have hj':j=0\/j=1\/j=2\/j=3:=by omega
  rcases hj' with rfl | rfl | rfl | rfl
  ·exact h.1.1
  ·exact h.1.2
  ·exact h.2.1
  ·exact h.2.2))
 have HRT:=zQ0 ho.2.2.2.2.1.2;clear later ho hs;unfold OpL.val
 go_enter Tryz.func127,Tryz.ntmps127
 go_upto_region 1 with fail
 generalize hW:(w.alloc _).alloc _=w1;obtain⟨g1,rO,tO,_,tR,z1⟩:=zar w o.cells OpL.zcells _ _ w1 hW;clear hW;have HB1:Hid (OBox w o.cells w1):=(⟨rO,tO,tR,g1,by omega⟩:OBox w o.cells w1)
 have HZ1:=zQ0 z1;clear rO tO tR g1 z1;have KB:=zQ0 (fun(w':World) (g:Grew w1 w')=>(have h:=(HB1.out.grew g).1;⟨zci h (j:=1) rfl,zci h (j:=2) rfl,zci h (j:=10) rfl⟩:w'.cell? ⟨w.heap.size,1,none⟩=some (.slice o.path.a o.path.l.length o.path.c)/\w'.cell? ⟨w.heap.size,2,none⟩=some (.slice o.dest.a o.dest.l.length o.dest.c)/\w'.cell? ⟨w.heap.size,10,none⟩=some (.slice o.xa o.text.length o.xc)));have hS:Grew w1 w1.drew:=(Grew.refl _).drew;refine zdl (Grew w1) (fun j=>j.blt 9 && j != 3 && j != 6) (by kernel_rfl) ?_;refine zdg (i:=3) (v:=.pointer (some ⟨w.heap.size,2,none⟩)) rfl (by kernel_rfl) (by kernel_rfl) (by kernel_rfl) (by kernel_rfl) (fun _ _ _ h=>h) (Or.inl ⟨rfl,fun w' hS=>by go_simp⟩) ?_;refine zdg (i:=6) (v:=.pointer (some ⟨w.heap.size,10,none⟩)) rfl (by kernel_rfl) (by kernel_rfl) (by kernel_rfl) (by kernel_rfl) (fun _ _ _ h=>h) (Or.inl ⟨rfl,fun w' hS=>by go_simp⟩) ?_;refine zdh (i:=0) (v:=.pointer (some ⟨w.heap.size,1,none⟩)) rfl (by kernel_rfl) (Or.inl ⟨rfl,fun w' hS=>by go_simp⟩) hS ?_;refine zdh (i:=1) (v:=.slice o.path.a o.path.l.length o.path.c) rfl (by kernel_rfl) (Or.inl ⟨rfl,fun w' hS=>by obtain⟨k1,k2,k10⟩:=KB.out w' hS;go_simp⟩) hS ?_;refine zdh (i:=4) (v:=.slice o.dest.a o.dest.l.length o.dest.c) rfl (by kernel_rfl) (Or.inl ⟨rfl,fun w' hS=>by obtain⟨k1,k2,k10⟩:=KB.out w' hS;go_simp⟩) hS ?_;refine zdh (i:=7) (v:=.slice o.xa o.text.length o.xc) rfl (by kernel_rfl) (Or.inl ⟨rfl,fun w' hS=>by obtain⟨k1,k2,k10⟩:=KB.out w' hS;go_simp⟩) hS ?_;refine zdf (i:=2) (by kernel_rfl) rfl rfl ?_;intro K' hK';go_wp2_with fail
 refine (C1.out w1.drew (HB1.out.2.2.2.1.trans hS)).mono ?_;rintro e w2 ⟨q1,rfl,g2,hq1,he1⟩;refine hK' _ _ ⟨fun _=>hS.trans g2,?_⟩;clear hK' K';refine zdf (i:=5) (by kernel_rfl) rfl rfl ?_;intro K' hK';go_wp2_with fail
 refine (C2.out w2 ((HB1.out.2.2.2.1.trans hS).trans g2)).mono ?_;rintro e w3 ⟨q2,rfl,g3,hq2,he2⟩;refine hK' _ _ ⟨fun _=>(hS.trans g2).trans g3,?_⟩;clear hK' K';refine zdf (i:=8) (by kernel_rfl) rfl rfl ?_;intro K' hK';go_wp2_with fail
 refine (C3.out w3 (((HB1.out.2.2.2.1.trans hS).trans g2).trans g3)).mono ?_;rintro e w4 ⟨va,vc,rfl,g4,hown,_⟩;refine hK' _ _ ⟨fun _=>((hS.trans g2).trans g3).trans g4,?_⟩;clear hK' K';have G14:=zQ0 (((hS.trans g2).trans g3).trans g4);have B4:=zQ0 (HB1.out.grew G14.out);have HA:Hid (OwnA (w.heap.size+2) { o with path:=q1,dest:=q2,xa:=va,xc:=vc } w4):=(⟨((IntsIn.agree hq1 ((g3.trans g4).agree zQ1)).mono (show w.heap.size+2<=_ by have:=HZ1.out;have:=hS.size;omega) (g3.trans g4).size),((IntsIn.agree hq2 (g4.agree zQ1)).mono (show w.heap.size+2<=_ by have:=HZ1.out;have:=hS.size;have:=g2.size;omega) g4.size),⟨(zbZ hown (ints_at32 o.text)).1.mono (show w.heap.size+2<=_ by have:=HZ1.out;have:=hS.size;have:=g2.size;have:=g3.size;omega) zQ1,HRT.out⟩⟩:OwnA (w.heap.size+2) { o with path:=q1,dest:=q2,xa:=va,xc:=vc } w4)
 have HE1:Hid (({ o with path:=q1,dest:=q2,xa:=va,xc:=vc }:OpL).er=o.er):=by show _=_;simp only[OpL.er,he1.out,he2.out]
 have c1:=zci B4.out.1 (j:=1) rfl;have c2:=zci B4.out.1 (j:=2) rfl;have c10:=zci B4.out.1 (j:=10) rfl;have f1:w4.frozen? ⟨w.heap.size,1,none⟩=false:=by have:=(B4.out.2.1 1 (by decide)).2;simpa using this
 have f2:w4.frozen? ⟨w.heap.size,2,none⟩=false:=by have:=(B4.out.2.1 2 (by decide)).2;simpa using this
 have f10:w4.frozen? ⟨w.heap.size,10,none⟩=false:=by have:=(B4.out.2.1 10 (by decide)).2;simpa using this
 clear hq1 hq2 hown he1 he2 g2 g3 g4 hS KB C1 C2 C3 HRT;refine zdf (i:=9) (by kernel_rfl) rfl rfl ?_;intro K' hK';go_wp2_with fail
 refine⟨fun h=>(by cases h),?_⟩;refine zdf (i:=10) (by kernel_rfl) rfl rfl ?_;intro K' hK';go_wp2_with fail
 refine⟨fun h=>(by cases h),?_⟩;refine zdf (i:=11) (by kernel_rfl) rfl rfl ?_;intro K' hK';go_wp2_with fail
 refine⟨fun h=>(by cases h),?_⟩;refine zdf (i:=12) (by kernel_rfl) rfl rfl ?_;intro K' hK';go_wp2_with fail
 refine⟨fun h=>(by cases h),?_⟩;refine zdf (i:=13) (by kernel_rfl) rfl rfl ?_;intro K' hK';go_wp2_with fail
 refine⟨fun h=>(by cases h),?_⟩;refine zdf (i:=14) (by kernel_rfl) rfl rfl ?_;intro K' hK';go_wp2_with fail
 refine⟨fun h=>(by cases h),?_⟩;refine zde (by kernel_rfl) ?_ _;have HB5:=zQ0 (((B4.out.set (j:=1) (show 1 < o.cells.length by rw[OpL.cells_len];decide) (.slice q1.a q1.l.length q1.c)).set (j:=2) (by rw[List.length_set,OpL.cells_len];decide) (.slice q2.a q2.l.length q2.c)).set (j:=10) (by rw[List.length_set,List.length_set,OpL.cells_len];decide) (.slice va o.text.length vc));have HA5:=zQ0 (((HA.out.agree own_agree (by simp)).agree own_agree (by simp)).agree (w2:=((w4.setCell ⟨w.heap.size,1,none⟩ (.slice q1.a q1.l.length q1.c)).setCell ⟨w.heap.size,2,none⟩ (.slice q2.a q2.l.length q2.c)).setCell ⟨w.heap.size,10,none⟩ (.slice va o.text.length vc)) own_agree (by simp));clear HA B4 c1 c2 c10 f1 f2 f10 G14;generalize ((w4.setCell ⟨w.heap.size,1,none⟩ (.slice q1.a q1.l.length q1.c)).setCell ⟨w.heap.size,2,none⟩ (.slice q2.a q2.l.length q2.c)).setCell ⟨w.heap.size,10,none⟩ (.slice va o.text.length vc)=w5 at *;have HB5:Hid (OBox w ({ o with path:=q1,dest:=q2,xa:=va,xc:=vc }:OpL).cells w5):=HB5;go_upto_region 2 with fail
 have KB:=zQ0 (fun(w':World) (g:Grew w5 w')=>(have h:=(OBox.grew HB5.out g).1;⟨zci h (j:=8) rfl,zci h (j:=9) rfl,zci h (j:=4) rfl,zci h (j:=5) rfl,zci h (j:=6) rfl,zci h (j:=7) rfl⟩:w'.cell? ⟨w.heap.size,8,none⟩=some (.slice o.oa o.old.length o.oc)/\w'.cell? ⟨w.heap.size,9,none⟩=some (.slice o.na o.new.length o.nc)/\w'.cell? ⟨w.heap.size,4,none⟩=some (.bool o.node.lf)/\w'.cell? ⟨w.heap.size,5,none⟩=some (.slice o.node.pa o.node.ps.length o.node.pc)/\w'.cell? ⟨w.heap.size,6,none⟩=some (.slice o.node.ta o.node.ts.length o.node.tc)/\w'.cell? ⟨w.heap.size,7,none⟩=some (.slice o.node.ka o.node.ks.length o.node.kc)));have hS:Grew w5 w5.drew:=(Grew.refl _).drew;have GW5:=zQ0 HB5.out.2.2.2.1;have HZ5:=zQ0 HB5.out.2.2.2.2;unfold NT.val at C6;refine zdl (Grew w5) (fun j=>j.blt 9 && j != 3 && j != 6) (by kernel_rfl) ?_;refine zdg (i:=3) (v:=.pointer (some ⟨w.heap.size,9,none⟩)) rfl (by kernel_rfl) (by kernel_rfl) (by kernel_rfl) (by kernel_rfl) (fun _ _ _ h=>h) (Or.inl ⟨rfl,fun w' hS=>by go_simp⟩) ?_;refine zdg (i:=6) (v:=.pointer (some ⟨w.heap.size,4,none⟩)) rfl (by kernel_rfl) (by kernel_rfl) (by kernel_rfl) (by kernel_rfl) (fun _ _ _ h=>h) (Or.inl ⟨rfl,fun w' hS=>by go_simp⟩) ?_;refine zdh (i:=0) (v:=.pointer (some ⟨w.heap.size,8,none⟩)) rfl (by kernel_rfl) (Or.inl ⟨rfl,fun w' hS=>by go_simp⟩) hS ?_;refine zdh (i:=1) (v:=.slice o.oa o.old.length o.oc) rfl (by kernel_rfl) (Or.inl ⟨rfl,fun w' hS=>by obtain⟨k8,k9,k4,k5,k6,k7⟩:=KB.out w' hS;go_simp⟩) hS ?_;refine zdh (i:=4) (v:=.slice o.na o.new.length o.nc) rfl (by kernel_rfl) (Or.inl ⟨rfl,fun w' hS=>by obtain⟨k8,k9,k4,k5,k6,k7⟩:=KB.out w' hS;go_simp⟩) hS ?_;refine zdh (i:=7) (v:=.agg #[.bool o.node.lf,.slice o.node.pa o.node.ps.length o.node.pc,.slice o.node.ta o.node.ts.length o.node.tc,.slice o.node.ka o.node.ks.length o.node.kc]) rfl (by kernel_rfl) (Or.inl ⟨rfl,fun w' hS=>by obtain⟨k8,k9,k4,k5,k6,k7⟩:=KB.out w' hS;go_simp⟩) hS ?_;refine zdf (i:=2) (by kernel_rfl) rfl rfl ?_;intro K' hK';go_wp2_with fail
 refine (C4.out w5.drew (GW5.out.trans hS)).mono ?_;rintro e w6 ⟨v4,rfl,g6,hown4⟩;obtain⟨oa,oc,rfl⟩:=zb2 hown4;refine hK' _ _ ⟨fun _=>hS.trans g6,?_⟩;clear hK' K';refine zdf (i:=5) (by kernel_rfl) rfl rfl ?_;intro K' hK';go_wp2_with fail
 refine (C5.out w6 ((GW5.out.trans hS).trans g6)).mono ?_;rintro e w7 ⟨v5,rfl,g7,hown5⟩;obtain⟨na,nc,rfl⟩:=zb2 hown5;refine hK' _ _ ⟨fun _=>(hS.trans g6).trans g7,?_⟩;clear hK' K';refine zdf (i:=8) (by kernel_rfl) rfl rfl ?_;intro K' hK';go_wp2_with fail
 refine (C6.out w7 (((GW5.out.trans hS).trans g6).trans g7)).mono ?_;rintro e w8 ⟨m,rfl,g8,hm,hme⟩;refine hK' _ _ ⟨fun _=>((hS.trans g6).trans g7).trans g8,?_⟩;clear hK' K';have G58:=zQ0 (((hS.trans g6).trans g7).trans g8);have B8:Hid (OBox w ({ o with path:=q1,dest:=q2,xa:=va,xc:=vc }:OpL).cells w8):=OBox.grew HB5.out G58.out;have HA8:Hid (OwnA (w.heap.size+2) { o with path:=q1,dest:=q2,xa:=va,xc:=vc,oa:=oa,oc:=oc,na:=na,nc:=nc,node:=m } w8):=OwnA.agree (x:={ o with path:=q1,dest:=q2,xa:=va,xc:=vc }) HA5.out ((G58.out.agree zQ1).mono (Nat.zero_le _) zQ1) G58.out.size;have HC8:Hid (OwnC (w.heap.size+2) { o with path:=q1,dest:=q2,xa:=va,xc:=vc,oa:=oa,oc:=oc,na:=na,nc:=nc,node:=m } w8):=⟨(RowIn.agree (zbZ (f:=fun i j=>zca (o.old.getD i default) j) hown4 (zaI o.old)).1 ((g7.trans g8).agree zQ1)).mono (show w.heap.size+2<=_ by have:=HZ5.out;have:=hS.size;omega) (g7.trans g8).size,(RowIn.agree (zbZ (f:=fun i j=>zca (o.new.getD i default) j) hown5 (zaI o.new)).1 (g8.agree zQ1)).mono (show w.heap.size+2<=_ by have:=HZ5.out;have:=hS.size;have:=g6.size;omega) g8.size,hm.1.mono (show w.heap.size+2<=_ by have:=HZ5.out;have:=hS.size;have:=g6.size;have:=g7.size;omega) zQ1⟩
 have HE2:Hid (({ o with path:=q1,dest:=q2,xa:=va,xc:=vc,oa:=oa,oc:=oc,na:=na,nc:=nc,node:=m }:OpL).er=o.er):=by show _=_;rw[<- HE1.out];simp only[OpL.er,hme.out]
 have c8:=zci B8.out.1 (j:=8) rfl;have c9:=zci B8.out.1 (j:=9) rfl;have c4:=zci B8.out.1 (j:=4) rfl;have c5:=zci B8.out.1 (j:=5) rfl;have c6:=zci B8.out.1 (j:=6) rfl;have c7:=zci B8.out.1 (j:=7) rfl;have f8:w8.frozen? ⟨w.heap.size,8,none⟩=false:=by have:=(B8.out.2.1 8 (by decide)).2;simpa using this
 have f9:w8.frozen? ⟨w.heap.size,9,none⟩=false:=by have:=(B8.out.2.1 9 (by decide)).2;simpa using this
 have f4:w8.frozen? ⟨w.heap.size,4,none⟩=false:=by have:=(B8.out.2.1 4 (by decide)).2;simpa using this
 have f5:w8.frozen? ⟨w.heap.size,5,none⟩=false:=by have:=(B8.out.2.1 5 (by decide)).2;simpa using this
 have f6:w8.frozen? ⟨w.heap.size,6,none⟩=false:=by have:=(B8.out.2.1 6 (by decide)).2;simpa using this
 have f7:w8.frozen? ⟨w.heap.size,7,none⟩=false:=by have:=(B8.out.2.1 7 (by decide)).2;simpa using this
 clear hown4 hown5 hm hme g6 g7 g8 hS KB C4 C5 C6 HA5 HE1;refine zdf (i:=9) (by kernel_rfl) rfl rfl ?_;intro K' hK';go_wp2_with fail
 refine zdf (i:=10) (by kernel_rfl) rfl rfl ?_;intro K' hK';go_wp2_with fail
 refine⟨fun h=>(by cases h),?_⟩;refine zdf (i:=11) (by kernel_rfl) rfl rfl ?_;intro K' hK';go_wp2_with fail
 refine⟨fun h=>(by cases h),?_⟩;refine zdf (i:=12) (by kernel_rfl) rfl rfl ?_;intro K' hK';go_wp2_with fail
 refine⟨fun h=>(by cases h),?_⟩;refine zdf (i:=13) (by kernel_rfl) rfl rfl ?_;intro K' hK';go_wp2_with fail
 refine⟨fun h=>(by cases h),?_⟩;refine zdf (i:=14) (by kernel_rfl) rfl rfl ?_;intro K' hK';go_wp2_with fail
 refine⟨fun h=>(by cases h),?_⟩;refine zde (by kernel_rfl) ?_ _;have HB9:OBox w ({ o with path:=q1,dest:=q2,xa:=va,xc:=vc,oa:=oa,oc:=oc,na:=na,nc:=nc,node:=m }:OpL).cells ((((((w8.setCell ⟨w.heap.size,8,none⟩ (.slice oa o.old.length oc)).setCell ⟨w.heap.size,9,none⟩ (.slice na o.new.length nc)).setCell ⟨w.heap.size,4,none⟩ (.bool m.lf)).setCell ⟨w.heap.size,5,none⟩ (.slice m.pa m.ps.length m.pc)).setCell ⟨w.heap.size,6,none⟩ (.slice m.ta m.ts.length m.tc)).setCell ⟨w.heap.size,7,none⟩ (.slice m.ka m.ks.length m.kc)):=ownBox6 B8.out _ _ _ _ _ _;have hag:Agree (w.heap.size+2) w8.heap.size w8 ((((((w8.setCell ⟨w.heap.size,8,none⟩ (.slice oa o.old.length oc)).setCell ⟨w.heap.size,9,none⟩ (.slice na o.new.length nc)).setCell ⟨w.heap.size,4,none⟩ (.bool m.lf)).setCell ⟨w.heap.size,5,none⟩ (.slice m.pa m.ps.length m.pc)).setCell ⟨w.heap.size,6,none⟩ (.slice m.ta m.ts.length m.tc)).setCell ⟨w.heap.size,7,none⟩ (.slice m.ka m.ks.length m.kc)):=((((own_agree.trans own_agree).trans own_agree).trans own_agree).trans own_agree).trans own_agree;have HA9:=zQ0 (OwnA.agree HA8.out hag (by simp));have HC9:=zQ0 (OwnC.agree HC8.out hag (by simp));clear HA8 HC8 B8 c8 c9 c4 c5 c6 c7 f8 f9 f4 f5 f6 f7 G58 hag HB5 GW5 HZ5 HB1 HZ1;generalize (((((w8.setCell ⟨w.heap.size,8,none⟩ (.slice oa o.old.length oc)).setCell ⟨w.heap.size,9,none⟩ (.slice na o.new.length nc)).setCell ⟨w.heap.size,4,none⟩ (.bool m.lf)).setCell ⟨w.heap.size,5,none⟩ (.slice m.pa m.ps.length m.pc)).setCell ⟨w.heap.size,6,none⟩ (.slice m.ta m.ts.length m.tc)).setCell ⟨w.heap.size,7,none⟩ (.slice m.ka m.ks.length m.kc)=w9 at *
 have hxg:∀ j,(({ o with path:=q1,dest:=q2,xa:=va,xc:=vc,oa:=oa,oc:=oc,na:=na,nc:=nc,node:=m }:OpL)).gp j=o.gp j:=fun j=>by match j with
  | 0=>rfl
  | 1=>rfl
  | 2=>rfl
  | _+3=>rfl
 generalize ({ o with path:=q1,dest:=q2,xa:=va,xc:=vc,oa:=oa,oc:=oc,na:=na,nc:=nc,node:=m }:OpL)=x2 at *;go_wp2_with fail
 generalize hW:w9.alloc _=w10;obtain⟨g9,rP,_,z10⟩:=zaq w9 [.pointer (some ⟨w.heap.size,12,none⟩),.pointer (some ⟨w.heap.size,14,none⟩),.pointer (some ⟨w.heap.size,17,none⟩),.pointer (some ⟨w.heap.size,19,none⟩)] _ w10 hW;clear hW;have hst:OwnOp o w w9.heap.size (.int .i64 (0:Nat)) w10:=⟨0,x2,by omega,rfl,OBox.grew HB9 g9,OwnA.agree HA9.out ((g9.agree zQ1).mono (Nat.zero_le _) zQ1) g9.size,OwnC.agree HC9.out ((g9.agree zQ1).mono (Nat.zero_le _) zQ1) g9.size,⟨HB9.2.2.2.2,by omega⟩,⟨zci rP (j:=0) rfl,zci rP (j:=1) rfl,zci rP (j:=2) rfl,zci rP (j:=3) rfl⟩,fun j hj=>by omega,fun j _ _=>hxg j,HE2⟩
 generalize w9.heap.size=B at *;clear g9 rP z10 HB9 HA9 HC9 hxg HE2
 go_loopw [43] (fun i wr=>OwnOp o w B i wr) (fun i _=>4 - (intOf i).toNat)
 case atStart=>exact hst
 case round =>
  clear hst;obtain⟨k,x,hk,rfl,hb,hA,hC,hB,⟨p0,p1,p2,p3⟩,hnew,hold,he⟩:=hrel;have hk':k=0\/k=1\/k=2\/k=3\/k=4:=by omega
  rcases hk' with hk0 | hk0 | hk0 | hk0 | hk0
  ·have hk1:(k:Int) < 4:=by omega
   have hgp:x.gp 0=o.gp 0:=hold 0 (by omega) (by omega)
   have hc:wr.cell? ⟨w.heap.size,12,none⟩=some (.slice (o.gp 0).a (o.gp 0).l.length (o.gp 0).c):=by
    have:=zci hb.1 (j:=12) (v:=.slice (x.gp 0).a (x.gp 0).l.length (x.gp 0).c) rfl;rw[<- hgp];exact this
   have hpk:wr.cell? ⟨B,k,none⟩=some (.pointer (some ⟨w.heap.size,12,none⟩)):=by rw[hk0];exact p0
   have hfo:wr.frozen? ⟨w.heap.size,12,none⟩=false:=by have:=(hb.2.1 12 (by decide)).2;simpa using this
   have HST:=zQ0 (fun(w2:World) (q:PN) (g2:Grew wr w2) (hq:IntsIn w2 wr.heap.size w2.heap.size q.a q.c q.l) (hqe:Hid (q.l=(o.gp 0).l))=>ownOp_step (q:=q) (show k < 4 by omega) hb hA hC hB ⟨p0,p1,p2,p3⟩ hnew hold he g2 hq (by rw[hk0];exact hqe));have HOK:Hid (offO k=12):=by show _=_;rw[hk0];rfl
   have hzz:w.heap.size < wr.heap.size:=by have:=hb.2.2.2.2;omega
   have C:=zQ0 (CP.out 0 (by omega) wr hb.2.2.2.1);clear hb hA hC p0 p1 p2 p3 hnew hold he hk0 hgp;generalize o.gp 0=z at *;go_wp2_with fail
   refine C.out.mono ?_;rintro e w2 ⟨q,rfl,g2,hq,hqe⟩;have hc2:=(g2.cell (p:=⟨w.heap.size,12,none⟩) hzz).trans hc;have hf2:=(g2.frozen (p:=⟨w.heap.size,12,none⟩) hzz).trans hfo;have hN:=HST.out w2 q g2 hq hqe;rw[HOK.out] at hN;have HN:=zQ0 hN;clear hN HST C;go_wp2_with fail
   go_roundw
   case rel =>
    have:=HN.out
    simpa using this
   case measure=>simp[intOf];omega
  ·have hk1:(k:Int) < 4:=by omega
   have hgp:x.gp 1=o.gp 1:=hold 1 (by omega) (by omega)
   have hc:wr.cell? ⟨w.heap.size,14,none⟩=some (.slice (o.gp 1).a (o.gp 1).l.length (o.gp 1).c):=by
    have:=zci hb.1 (j:=14) (v:=.slice (x.gp 1).a (x.gp 1).l.length (x.gp 1).c) rfl;rw[<- hgp];exact this
   have hpk:wr.cell? ⟨B,k,none⟩=some (.pointer (some ⟨w.heap.size,14,none⟩)):=by rw[hk0];exact p1
   have hfo:wr.frozen? ⟨w.heap.size,14,none⟩=false:=by have:=(hb.2.1 14 (by decide)).2;simpa using this
   have HST:=zQ0 (fun(w2:World) (q:PN) (g2:Grew wr w2) (hq:IntsIn w2 wr.heap.size w2.heap.size q.a q.c q.l) (hqe:Hid (q.l=(o.gp 1).l))=>ownOp_step (q:=q) (show k < 4 by omega) hb hA hC hB ⟨p0,p1,p2,p3⟩ hnew hold he g2 hq (by rw[hk0];exact hqe));have HOK:Hid (offO k=14):=by show _=_;rw[hk0];rfl
   have hzz:w.heap.size < wr.heap.size:=by have:=hb.2.2.2.2;omega
   have C:=zQ0 (CP.out 1 (by omega) wr hb.2.2.2.1);clear hb hA hC p0 p1 p2 p3 hnew hold he hk0 hgp;generalize o.gp 1=z at *;go_wp2_with fail
   refine C.out.mono ?_;rintro e w2 ⟨q,rfl,g2,hq,hqe⟩;have hc2:=(g2.cell (p:=⟨w.heap.size,14,none⟩) hzz).trans hc;have hf2:=(g2.frozen (p:=⟨w.heap.size,14,none⟩) hzz).trans hfo;have hN:=HST.out w2 q g2 hq hqe;rw[HOK.out] at hN;have HN:=zQ0 hN;clear hN HST C;go_wp2_with fail
   go_roundw
   case rel =>
    have:=HN.out
    simpa using this
   case measure=>simp[intOf];omega
  ·have hk1:(k:Int) < 4:=by omega
   have hgp:x.gp 2=o.gp 2:=hold 2 (by omega) (by omega)
   have hc:wr.cell? ⟨w.heap.size,17,none⟩=some (.slice (o.gp 2).a (o.gp 2).l.length (o.gp 2).c):=by
    have:=zci hb.1 (j:=17) (v:=.slice (x.gp 2).a (x.gp 2).l.length (x.gp 2).c) rfl;rw[<- hgp];exact this
   have hpk:wr.cell? ⟨B,k,none⟩=some (.pointer (some ⟨w.heap.size,17,none⟩)):=by rw[hk0];exact p2
   have hfo:wr.frozen? ⟨w.heap.size,17,none⟩=false:=by have:=(hb.2.1 17 (by decide)).2;simpa using this
   have HST:=zQ0 (fun(w2:World) (q:PN) (g2:Grew wr w2) (hq:IntsIn w2 wr.heap.size w2.heap.size q.a q.c q.l) (hqe:Hid (q.l=(o.gp 2).l))=>ownOp_step (q:=q) (show k < 4 by omega) hb hA hC hB ⟨p0,p1,p2,p3⟩ hnew hold he g2 hq (by rw[hk0];exact hqe));have HOK:Hid (offO k=17):=by show _=_;rw[hk0];rfl
   have hzz:w.heap.size < wr.heap.size:=by have:=hb.2.2.2.2;omega
   have C:=zQ0 (CP.out 2 (by omega) wr hb.2.2.2.1);clear hb hA hC p0 p1 p2 p3 hnew hold he hk0 hgp;generalize o.gp 2=z at *;go_wp2_with fail
   refine C.out.mono ?_;rintro e w2 ⟨q,rfl,g2,hq,hqe⟩;have hc2:=(g2.cell (p:=⟨w.heap.size,17,none⟩) hzz).trans hc;have hf2:=(g2.frozen (p:=⟨w.heap.size,17,none⟩) hzz).trans hfo;have hN:=HST.out w2 q g2 hq hqe;rw[HOK.out] at hN;have HN:=zQ0 hN;clear hN HST C;go_wp2_with fail
   go_roundw
   case rel =>
    have:=HN.out
    simpa using this
   case measure=>simp[intOf];omega
  ·have hk1:(k:Int) < 4:=by omega
   have hgp:x.gp 3=o.gp 3:=hold 3 (by omega) (by omega)
   have hc:wr.cell? ⟨w.heap.size,19,none⟩=some (.slice (o.gp 3).a (o.gp 3).l.length (o.gp 3).c):=by
    have:=zci hb.1 (j:=19) (v:=.slice (x.gp 3).a (x.gp 3).l.length (x.gp 3).c) rfl;rw[<- hgp];exact this
   have hpk:wr.cell? ⟨B,k,none⟩=some (.pointer (some ⟨w.heap.size,19,none⟩)):=by rw[hk0];exact p3
   have hfo:wr.frozen? ⟨w.heap.size,19,none⟩=false:=by have:=(hb.2.1 19 (by decide)).2;simpa using this
   have HST:=zQ0 (fun(w2:World) (q:PN) (g2:Grew wr w2) (hq:IntsIn w2 wr.heap.size w2.heap.size q.a q.c q.l) (hqe:Hid (q.l=(o.gp 3).l))=>ownOp_step (q:=q) (show k < 4 by omega) hb hA hC hB ⟨p0,p1,p2,p3⟩ hnew hold he g2 hq (by rw[hk0];exact hqe));have HOK:Hid (offO k=19):=by show _=_;rw[hk0];rfl
   have hzz:w.heap.size < wr.heap.size:=by have:=hb.2.2.2.2;omega
   have C:=zQ0 (CP.out 3 (by omega) wr hb.2.2.2.1);clear hb hA hC p0 p1 p2 p3 hnew hold he hk0 hgp;generalize o.gp 3=z at *;go_wp2_with fail
   refine C.out.mono ?_;rintro e w2 ⟨q,rfl,g2,hq,hqe⟩;have hc2:=(g2.cell (p:=⟨w.heap.size,19,none⟩) hzz).trans hc;have hf2:=(g2.frozen (p:=⟨w.heap.size,19,none⟩) hzz).trans hfo;have hN:=HST.out w2 q g2 hq hqe;rw[HOK.out] at hN;have HN:=zQ0 hN;clear hN HST C;go_wp2_with fail
   go_roundw
   case rel =>
    have:=HN.out
    simpa using this
   case measure=>simp[intOf];omega
  ·have hk1:¬ (k:Int) < 4:=by omega
   have hxin:∀ j,j < 4->IntsIn wr (w.heap.size+2) wr.heap.size (x.gp j).a (x.gp j).c (x.gp j).l:=fun j hj=>hnew j (by omega);have HIN:=zQ0 hxin;have HAA:=zQ0 hA;have HCC:=zQ0 hC;have hx:=hb.1;have ht:=hb.2.2.1;have HG:=zQ0 hb.2.2.2.1;have HZ:=zQ0 hb.2.2.2.2;clear hnew hold p0 p1 p2 p3 hk0 hxin hA hC hb;have HO:=zQ0 (zcm (cs:=x.cells) ht);have HK:=zQ0 (zcM (w.heap.size+1) x.cells 0 wr)
   go_wp2_with (first | (refine wpList_load_mid rfl 35 (.tmp 1) rfl w.heap.size 0 rfl x.cells _ hx Tryz.underlying35 rfl zbp ?_) | (refine wpList_store_mid rfl 35 (.tmp 2) (.tmp 56) rfl (w.heap.size+1) 0 x.cells.toArray rfl rfl ht zbp (all_oneCell_toArray x.cells_one) ?_;generalize wr.setCells (w.heap.size+1) 0 x.cells.toArray.toList=W at *))
   have kW:=HK.out;have zW:=kW.size;have hGW:Grew w W:=HG.out.keep kW (fun j hj=>by show _<=j;rw[hj];omega);have hag:Agree (w.heap.size+2) wr.heap.size wr W:=kW.agree zQ1 (fun j h1 h2=>by show ¬ j=_;omega);have hAW:=OwnA.agree HAA.out hag zW;have hCW:=OwnC.agree HCC.out hag zW;have hlo:w.heap.size<=w.heap.size+2:=by omega
   have hxW:x.In W w.heap.size W.heap.size:=by
    have q:=fun j (hj:j < 4)=>((IntsIn.agree (HIN.out j hj) hag).mono hlo zW:IntsIn W w.heap.size W.heap.size (x.gp j).a (x.gp j).c (x.gp j).l)
    exact⟨⟨hAW.1.mono hlo zQ1,hAW.2.1.mono hlo zQ1⟩,NT.In.mono hCW.2.2 hlo zQ1,hCW.1.mono hlo zQ1,hCW.2.1.mono hlo zQ1,hAW.2.2.mono hlo zQ1,⟨q 0 (by omega),q 1 (by omega)⟩,⟨q 2 (by omega),q 3 (by omega)⟩⟩
   exact bodyPost_ret (v:=x.val) (zcr Tryz.results127 _ W (w.heap.size+1) 0 x.cells _ rfl HO.out Tryz.underlying35 rfl zbp) rfl ⟨x,rfl,hGW,hxW,he⟩
end Go.Proofs.YtccobobnmpafbaaGreatDoor
